/-
  Texts of mine, packed: Turn, TurnB, WordT, InsR, TyD. No condition beside those of the single theorems.
-/
import Derived.Test.YtfbonocadpknbaaGreatDoorC5
import Derived.Test.YtfbonocadpknbaaGreatDoorC3
import Derived.Laws.OwnMore
import Derived.Test.YtfbonocadpknbaaGreatDoorC2
import Derived.Test.YtfbonocadpknbaaGreatDoorC1
set_option linter.unusedSimpArgs false
set_option linter.unusedVariables false
set_option maxHeartbeats 16000000
set_option maxRecDepth 100000
namespace Go.Proofs.YtfbonocadpknbaaGreatDoor
open Go.RowKit
def TurnedL (ls : List ByteArray) (l : ByteArray) : Prop := l.size ≤ 200 ∧ (l ∈ ls ∨ (∃ s ∈ ls, BentOf s l) ∨ ∃ i : DClsIns, l = tx (insText i))
def Turned (ls ls' : List ByteArray) : Prop := ls'.length ≤ ls.length + 1 ∧ ∀ l ∈ ls', TurnedL ls l
theorem plainGo_len : ∀ (f n : Nat) (out : List UInt8), (plainGo f n out).length ≤ f + out.length
 | 0, _, out => by simp [plainGo]
 | f + 1, n, out => by
   unfold plainGo
   split
   ·simp; omega
   ·have := plainGo_len f (n / 10) (UInt8.ofNat (48 + n % 10) :: out)
    simp at this ⊢; omega
theorem numText_len (n : Int) : (numText n).length ≤ 5 := by
 unfold numText plainText
 split
 ·have := plainGo_len 4 (-n).toNat []
  simp at this ⊢; omega
 ·have := plainGo_len 4 n.toNat []
  simp at this ⊢; omega
theorem insText_len {i : DClsIns} (h1 : i.fName.size ≤ 4) (h2 : i.fMember.size ≤ 4) : (insText i).length ≤ 20 := by
 have e1 : (by' i.fName).length ≤ 4 := by unfold by'; rw [Array.length_toList]; exact h1
 have e2 : (by' i.fMember).length ≤ 4 := by unfold by'; rw [Array.length_toList]; exact h2
 have e3 := opText_len i.fOp
 have e4 := numText_len i.fA
 unfold insText
 split
 ·split
  ·simp only [List.length_append, List.length_cons, List.length_nil]; omega
  ·split
   ·simp only [List.length_append, List.length_cons, List.length_nil]; omega
   ·split
    ·simp only [List.length_append, List.length_cons, List.length_nil]; omega
    ·omega
 ·simp
theorem Turned.cut {ls : List ByteArray} (h : ∀ l ∈ ls, l.size ≤ 100) (k : Nat) : Turned ls (ls.take k ++ ls.drop (k + 1)) :=
 ⟨by rw [List.length_append, List.length_take, List.length_drop]; omega, fun l hl => by
  have hm : l ∈ ls := by
   rcases List.mem_append.1 hl with hl | hl
   ·exact List.mem_of_mem_take hl
   ·exact List.mem_of_mem_drop hl
  exact ⟨by have := h l hm; omega, Or.inl hm⟩⟩
theorem Turned.put {ls : List ByteArray} (h : ∀ l ∈ ls, l.size ≤ 100) (k : Nat) {x : ByteArray} (hx : TurnedL ls x) : Turned ls ((ls.take k ++ [x]) ++ ls.drop k) :=
 ⟨by rw [List.length_append, List.length_append, List.length_take, List.length_drop]; simp; omega, fun l hl => by
  rcases List.mem_append.1 hl with hl | hl
  ·rcases List.mem_append.1 hl with hl | hl
   ·have hm := List.mem_of_mem_take hl
    exact ⟨by have := h l hm; omega, Or.inl hm⟩
   ·rw [List.mem_singleton] at hl; subst hl; exact hx
  ·have hm := List.mem_of_mem_drop hl
   exact ⟨by have := h l hm; omega, Or.inl hm⟩⟩
theorem Turned.set {ls : List ByteArray} (h : ∀ l ∈ ls, l.size ≤ 100) (k : Nat) {x : ByteArray} (hx : TurnedL ls x) : Turned ls (ls.set k x) :=
 ⟨by rw [List.length_set]; omega, fun l hl => by
  rcases List.mem_or_eq_of_mem_set hl with hm | rfl
  ·exact ⟨by have := h l hm; omega, Or.inl hm⟩
  ·exact hx⟩
theorem Turned.no {ls ls' : List ByteArray} (h : Turned ls ls') (hd : Drawn ls) : ∀ l ∈ ls', LineNo l := fun l hl => by
 rcases (h.2 l hl).2 with hm | ⟨s, hs, hb⟩ | ⟨i, rfl⟩
 ·exact hd.no l hm
 ·exact hd.bent hs hb
 ·exact ins_line i
theorem StrAt.sl {w : World} {b n c lo : Nat} {l : List ByteArray} (h : StrAt w b l) (hn : n = l.length) (hc : n ≤ c) (hm : c ≤ maxLen) (hs : ∀ x ∈ l, x.size ≤ maxLen) (hb : lo ≤ b) : Sl 1 rStr lo w (.slice (some ⟨b, 0, none⟩) n c) l := by
 subst hn
 refine ⟨_, _, _, rfl, rfl, hc, hm, fun _ => ⟨b, 0, rfl, hb, h.lt, fun i hi => ?_⟩⟩
 obtain ⟨x, hx⟩ : ∃ x, l[i]? = some x := ⟨_, List.getElem?_eq_getElem hi⟩
 exact ⟨x, [.string x], hx, rfl, fun j u hj => by
  cases j with
  | zero => simp at hj; subst hj; rw [Nat.zero_add, Nat.mul_one]; exact h.cell i x hx
  | succ j => simp at hj, rfl, hs x (List.mem_of_getElem? hx)⟩
theorem TOwn.strs {w : World} {lo B : Nat} {v : Value} {l : List ByteArray} (h : TOwn 1 rStr 9 lo B w v l) (h0 : 0 < l.length) : ∃ g cap, v = .slice (some ⟨g, 0, none⟩) l.length cap ∧ B ≤ g ∧ l.length ≤ cap ∧ cap ≤ maxLen ∧ StrAt w g l ∧ ∀ j, w.frozen? ⟨g, j, none⟩ = false := by
 obtain ⟨css, hr, ho⟩ := h.sl
 obtain ⟨g, cap, rfl, _, hg, hc, hm, hcell, hf⟩ := own_cell ho h0
 refine ⟨g, cap, rfl, h.own g rfl, hc, hm, ⟨hg, fun j x hx => ?_⟩, hf⟩
 obtain ⟨cs, hcs⟩ : ∃ cs, css[j]? = some cs := ⟨_, List.getElem?_eq_getElem (by rw [hr.len]; exact (List.getElem?_eq_some_iff.1 hx).1)⟩
 obtain ⟨hk, rfl, _⟩ := hr.row j x cs hx hcs
 have := flat_at hr.each hcs (show 0 < 1 by decide)
 rw [Nat.mul_one, Nat.add_zero] at this
 exact hcell j _ this

theorem StrAt.take {w : World} {b : Nat} {l : List ByteArray} (h : StrAt w b l) (k : Nat) : StrAt w b (l.take k) := ⟨h.lt, fun j x hx => h.cell j x (by rw [List.getElem?_take] at hx; split at hx <;> first | exact hx | cases hx)⟩
theorem rowsOf_len (l : List ByteArray) : (rowsOf l).length = l.length := by simp [rowsOf]
theorem StrAt.src_drop {w : World} {g n cap : Nat} {ls : List ByteArray} (h : StrAt w g ls) (hn : ls.length = n) (hc : n ≤ cap) (k : Nat) : Src 1 w (.slice (if cap = k + 1 then some ⟨g, 0, none⟩ else some ⟨g, k + 1, none⟩) (n - (k + 1)) (cap - (k + 1))) (rowsOf (ls.drop (k + 1))) := by
 have hl : (rowsOf (ls.drop (k + 1))).length = n - (k + 1) := by rw [rowsOf_len, List.length_drop, hn]
 split
 ·refine Or.inr ⟨⟨g, 0, none⟩, _, by rw [hl], fun j u hj => ?_⟩
  have : ls.drop (k + 1) = [] := List.drop_eq_nil_of_le (by omega)
  rw [this] at hj
  simp [rowsOf] at hj
 ·refine Or.inr ⟨⟨g, k + 1, none⟩, _, by rw [hl], fun j u hj => ?_⟩
  rw [rowsOf_flat, List.getElem?_map, List.getElem?_drop] at hj
  cases hx : ls[k + 1 + j]? with
  | none => rw [hx] at hj; cases hj
  | some x =>
    rw [hx] at hj
    cases hj
    rw [Addr.add_mid]
    exact h.cell _ x hx
theorem StrAt.src_tail {w : World} {g n cap : Nat} {ls : List ByteArray} (h : StrAt w g ls) (hn : ls.length = n) (hc : n ≤ cap) (k : Nat) : Src 1 w (.slice (some ⟨g, k, none⟩) (n - k) (cap - k)) (rowsOf (ls.drop k)) := by
 have hl : (rowsOf (ls.drop k)).length = n - k := by rw [rowsOf_len, List.length_drop, hn]
 refine Or.inr ⟨⟨g, k, none⟩, _, by rw [hl], fun j u hj => ?_⟩
 rw [rowsOf_flat, List.getElem?_map, List.getElem?_drop] at hj
 cases hx : ls[k + j]? with
 | none => rw [hx] at hj; cases hj
 | some x =>
   rw [hx] at hj
   cases hj
   rw [Addr.add_mid]
   exact h.cell _ x hx
theorem exC_next {r : Nat} {w w1 w2 : World} (h : Ex r w.heap.size w w1) (g : Below w1.heap.size w1 w2) : Ex r w.heap.size w w2 := h.trans ⟨g.os, g.tape, g.output, g.size, fun j _ hl => g.block j (by have := h.size; omega)⟩
theorem exC_ex {r : Nat} {w w1 w2 : World} (h : Ex r w.heap.size w w1) (g : Ex r w1.heap.size w1 w2) : Ex r w.heap.size w w2 := h.trans (g.mono h.size)
theorem exC_low {r N : Nat} {w w1 w2 : World} (h : Ex r N w w1) (g : Below N w1 w2) : Ex r N w w2 := h.trans ⟨g.os, g.tape, g.output, g.size, fun j _ hl => g.block j hl⟩
def cutF (B k : Nat) (lv sv : Value) (ls : List ByteArray) : Nat → Value → World → Prop
 | 0, v, w => Empty0 9 B w v
 | 1, v, _ => v = lv
 | 2, v, _ => v = .int .i64 (k : Int)
 | 3, v, _ => v = sv
 | 4, v, w => TOwn 1 rStr 9 B B w v (ls.take k)
 | 5, v, _ => v = lv
 | 6, v, _ => v = .int .i64 (k : Int)
 | 7, v, _ => v = .int .i64 ((k : Int) + 1)
 | 8, v, w => Src 1 w v (rowsOf (ls.drop (k + 1)))
 | _, _, _ => True
theorem cutF_stays {B k : Nat} {lv sv : Value} {ls : List ByteArray} : ∀ i u w w', relyG w w' → cutF B k lv sv ls i u w → cutF B k lv sv ls i u w'
 | 0, _, _, _, g, h => Empty0.below h g
 | 1, _, _, _, _, h => h
 | 2, _, _, _, _, h => h
 | 3, _, _, _, _, h => h
 | 4, _, _, _, g, h => TOwn.below qak h g
 | 5, _, _, _, _, h => h
 | 6, _, _, _, _, h => h
 | 7, _, _, _, _, h => h
 | 8, _, _, _, g, h => Src.kept (k := 1) h g
 | _ + 9, _, _, _, _, _ => trivial

def dblF (B k g : Nat) (lv sv tv : Value) (x : ByteArray) (ls : List ByteArray) : Nat → Value → World → Prop
 | 0, v, w => Empty0 9 B w v
 | 1, v, _ => v = lv
 | 2, v, _ => v = .int .i64 (k : Int)
 | 3, v, _ => v = sv
 | 4, v, w => TOwn 1 rStr 9 B B w v (ls.take k)
 | 5, v, _ => v = lv
 | 6, v, _ => v = .int .i64 (k : Int)
 | 7, v, _ => v = .pointer (some ⟨g, k, none⟩)
 | 8, v, _ => v = .string x
 | 9, v, w => Src 1 w v [[.string x]]
 | 10, v, w => TOwn 1 rStr 9 B B w v (ls.take k ++ [x])
 | 11, v, _ => v = lv
 | 12, v, _ => v = .int .i64 (k : Int)
 | 13, v, _ => v = tv
 | _, _, _ => True
def dblDead (i j : Nat) : Bool := j == 10 && (i == 0 || i == 4 || i == 9)
def dblG (i : Nat) (w w' : World) : Prop := i = 10 ∨ Below w.heap.size w w'
theorem dblF_stays {B k g : Nat} {lv sv tv : Value} {x : ByteArray} {ls : List ByteArray} : ∀ i j u w w', i ≠ j → dblDead i j = false → dblG j w w' → dblF B k g lv sv tv x ls i u w → dblF B k g lv sv tv x ls i u w'
 | 0, _, _, _, _, _, _, Or.inr g, h => Empty0.below h g
 | 0, _, _, _, _, _, hd, Or.inl e, _ => by subst e; cases hd
 | 1, _, _, _, _, _, _, _, h => h
 | 2, _, _, _, _, _, _, _, h => h
 | 3, _, _, _, _, _, _, _, h => h
 | 4, _, _, _, _, _, _, Or.inr g, h => TOwn.below qak h g
 | 4, _, _, _, _, _, hd, Or.inl e, _ => by subst e; cases hd
 | 5, _, _, _, _, _, _, _, h => h
 | 6, _, _, _, _, _, _, _, h => h
 | 7, _, _, _, _, _, _, _, h => h
 | 8, _, _, _, _, _, _, _, h => h
 | 9, _, _, _, _, _, _, Or.inr g, h => Src.kept (k := 1) h g
 | 9, _, _, _, _, _, hd, Or.inl e, _ => by subst e; cases hd
 | 10, _, _, _, _, _, _, Or.inr g, h => TOwn.below qak h g
 | 10, _, _, _, _, hne, _, Or.inl e, _ => absurd e.symm hne
 | 11, _, _, _, _, _, _, _, h => h
 | 12, _, _, _, _, _, _, _, h => h
 | 13, _, _, _, _, _, _, _, h => h
 | _ + 14, _, _, _, _, _, _, _, _ => trivial

def putF (B r p k : Nat) (lv sv tv : Value) (ls : List ByteArray) : Nat → Value → World → Prop
 | 0, v, w => Empty0 9 B w v ∧ r < B
 | 1, v, _ => v = lv
 | 2, v, _ => v = .int .i64 (k : Int)
 | 3, v, _ => v = sv
 | 4, v, w => TOwn 1 rStr 9 B B w v (ls.take k)
 | 5, v, _ => v = .pointer (some ⟨r, 0, none⟩)
 | 6, v, w => ∃ i : DClsIns, i.fName.size ≤ 4 ∧ i.fMember.size ≤ 4 ∧ v = .agg #[.int .i64 i.fOp, .int .i64 i.fA, .string i.fName, .string i.fMember] ∧ ∃ q, q ≤ p + 10 ∧ Rd w r q
 | 7, v, _ => ∃ i : DClsIns, (tx (insText i)).size ≤ 100 ∧ v = .string (tx (insText i))
 | 8, v, w => ∃ i : DClsIns, (tx (insText i)).size ≤ 100 ∧ B ≤ w.heap.size ∧ ∃ c, v = .slice (some ⟨c, 0, none⟩) 1 1 ∧ B ≤ c ∧ StrAt w c [tx (insText i)]
 | 9, v, w => ∃ i : DClsIns, (tx (insText i)).size ≤ 100 ∧ TOwn 1 rStr 9 B B w v (ls.take k ++ [tx (insText i)])
 | 10, v, _ => v = lv
 | 11, v, _ => v = .int .i64 (k : Int)
 | 12, v, _ => v = tv
 | _, _, _ => True
def putDead (i j : Nat) : Bool := j == 9 && (i == 0 || i == 4 || i == 8)
def putI (r p : Nat) (i : Nat) (w : World) : Prop := i = 6 → Rd w r p
def putG (B r : Nat) (i : Nat) (w w' : World) : Prop := (i = 9 ∧ Below B w w') ∨ (i = 6 ∧ Ex r w.heap.size w w') ∨ Below w.heap.size w w'
theorem Empty0.ex {e : TypeId} {B r N : Nat} {w w' : World} {v : Value} (h : Empty0 e B w v) (he : Ex r N w w') (hr : r < B) (hN : w.heap.size ≤ N) : Empty0 e B w' v := by
 obtain ⟨g, h1, h2, h3⟩ := h
 exact ⟨g, h1, h2, (he.block g (by omega) (by have := (Array.getElem?_eq_some_iff.1 h3).1; omega)).trans h3⟩
theorem putF_stays {B r p k : Nat} (hr : r < B) {lv sv tv : Value} {ls : List ByteArray} : ∀ i j u w w', i ≠ j → putDead i j = false → putG B r j w w' → putF B r p k lv sv tv ls i u w → putF B r p k lv sv tv ls i u w' := by
 intro i j u w w' hne hd hg h
 rcases hg with ⟨rfl, g⟩ | ⟨rfl, g⟩ | g
 ·match i with
  | 0 | 4 | 8 => cases hd
  | 1 | 2 | 3 | 5 | 7 | 10 | 11 | 12 => exact h
  | 6 =>
    obtain ⟨i, h1, h2, h3, q, hq, hR⟩ := h
    exact ⟨i, h1, h2, h3, q, hq, rd_below g hR hr⟩
  | 9 => exact absurd rfl hne
  | n + 13 => trivial
 ·match i with
  | 0 => exact ⟨h.1.ex g hr (Nat.le_refl _), h.2⟩
  | 1 | 2 | 3 | 5 | 7 | 10 | 11 | 12 => exact h
  | 4 => exact TOwn.ex h g hr (Nat.le_refl _)
  | 6 => exact absurd rfl hne
  | 8 =>
    obtain ⟨i, h1, h0, c, h2, h3, h4⟩ := h
    exact ⟨i, h1, by have := g.size; omega, c, h2, h3, h4.ex g (by omega) h4.lt⟩
  | 9 =>
    obtain ⟨i, h1, h2⟩ := h
    exact ⟨i, h1, h2.ex g hr (Nat.le_refl _)⟩
  | n + 13 => trivial
 ·match i with
  | 0 => exact ⟨h.1.below g, h.2⟩
  | 1 | 2 | 3 | 5 | 7 | 10 | 11 | 12 => exact h
  | 4 => exact TOwn.below qak h g
  | 6 =>
    obtain ⟨i, h1, h2, h3, q, hq, hR⟩ := h
    exact ⟨i, h1, h2, h3, q, hq, rd_below g hR hR.lt⟩
  | 8 =>
    obtain ⟨i, h1, h0, c, h2, h3, h4⟩ := h
    exact ⟨i, h1, by have := g.size; omega, c, h2, h3, h4.below g⟩
  | 9 =>
    obtain ⟨i, h1, h2⟩ := h
    exact ⟨i, h1, h2.below qak g⟩
  | n + 13 => trivial
theorem putI_stays {B r p : Nat} (hr : r < B) : ∀ i j w w', i ≠ j → putG B r j w w' → putI r p i w → putI r p i w' := by
 intro i j w w' hne hg h hi
 subst hi
 rcases hg with ⟨_, g⟩ | ⟨e, _⟩ | g
 ·exact rd_below g (h rfl) hr
 ·exact absurd e.symm hne
 ·exact rd_below g (h rfl) (h rfl).lt
def ins4 (op a : Int) (n m : ByteArray) : DClsIns := ⟨op, a, n, m⟩

def Turn20 (ls : List ByteArray) (r p : Nat) (w : World) (e : Ending) (w' : World) : Prop := ∃ v ls' q, e = .returned v ∧ Turned ls ls' ∧ Sl 1 rStr 0 w' v ls' ∧ q ≤ p + 20 ∧ Rd w' r q ∧ Ex r w.heap.size w w'

theorem S_l20Turn (ls : List ByteArray) (v : Value) (lo B r p : Nat) (w : World) (hv : TOwn 1 rStr 9 lo B w v ls) (hrB : r < B) (hl0 : 0 < ls.length) (hl1 : ls.length ≤ 200) (hsz : ∀ x ∈ ls, x.size ≤ 100) (hr : Rd w r p) (hp : p < 800000) :
  Calls Tryz.prog 53 #[.pointer (some ⟨r, 0, none⟩), v] w fun e w' => Turn20 ls r p w e w' := by
 have hlt := hr.lt
 obtain ⟨g, cap, rfl, hBg, hlc, hmx, hat, hfz⟩ := hv.strs hl0
 have hglt := hat.lt
 obtain ⟨n, hn⟩ : ∃ n, ls.length = n := ⟨_, rfl⟩
 rw [hn] at hl0 hl1 hlc ⊢
 have hcm : cap ≤ 9223372036854775807 := by unfold maxLen at hmx; omega
 have HN := qhd hn
 have HAT := qhd hat
 have HSZ := qhd hsz
 have HMX := qhd hmx
 clear hn hat hsz hv hfz hmx
 refine qab fun R HR => ?_
 go_enter Tryz.func53, Tryz.ntmps53
 go_wp2_with fail
 refine (S_pick r p n _ (by omega) (rdd) (by omega)).mono ?_
 rintro _ w1 ⟨⟨k', hk, rfl⟩, h1, h2⟩
 have h2s := (h2).size; (try simp only [qsz] at h2s)
 have hk1 := hk.1
 have hk2 := hk.2.1 (by omega)
 obtain ⟨k, rfl⟩ := Int.eq_ofNat_of_zero_le hk1
 have hkn : k < n := by omega
 clear hk hk1 hk2
 have E1 : Ex r w.heap.size w w1 := eexx
 have A1 := qhd (HAT.out.ex E1 (by omega) hglt)
 go_wp2_with fail
 refine (S_pick r (p + 1) 5 _ (by omega) (rdd) (by omega)).mono ?_
 rintro _ w2 ⟨⟨y, hy, rfl⟩, h3, h4⟩
 have h4s := (h4).size; (try simp only [qsz] at h4s)
 have E2 : Ex r w1.heap.size w1 w2 := eexx
 have A2 := qhd (A1.out.ex E2 (by omega) (by omega))
 have hg2 : g < w2.heap.size := by omega
 clear HAT A1
 rcases five hy with rfl | rfl | rfl | rfl | rfl
 ·clear hy
  have HS0 : Hid (∀ o, Src 1 (w2.alloc o) (.slice (some ⟨g, 0, none⟩) n cap) (rowsOf ls)) := qhd fun o => by
   have := (A2.out.alloc o).src (c := cap)
   rwa [HN.out] at this
  go_wp2_with (at_builtin; refine wpList_append_copyC (B := w2.heap.size) (lo := w2.heap.size) (R := rStr) (E := NoT) (ys := ls) (css := rowsOf ls) (by rfl) (.tmp 15) (.tmp 16) 28 (by rfl) sty_Str qak rStr_one (by rfl) (by rfl) (Empty0.new w2 _ (Nat.le_refl _)) (HS0.out _) (rowsOf_rows fun x hx => by have := HSZ.out x hx; unfold maxLen; omega) (by rw [HN.out]; omega) (Nat.le_refl _) (by simp) ?_)
  intro v3 w3 ht3 hb3
  obtain ⟨gx, cx, rfl, hgx, hcx, hmx, hax, hfx⟩ := ht3.plain.strs (by rw [HN.out]; omega)
  obtain ⟨x, hx⟩ : ∃ x, ls[k]? = some x := ⟨_, List.getElem?_eq_getElem (by rw [HN.out]; exact hkn)⟩
  have hcell := hax.cell k x hx
  have hxs := HSZ.out x (List.mem_of_getElem? hx)
  have hgxl := hax.lt
  have hfk := hfx k
  have hs3 := hb3.size
  simp only [World.size_alloc] at hs3
  have E3 : Ex r w.heap.size w w3 := eexx
  have R3 : Rd w3 r (p + 2) := rdd
  have HAX := qhd hax
  have HX := qhd hx
  have hcxm : cx ≤ 9223372036854775807 := by unfold maxLen at hmx; omega
  have HMX2 := qhd hmx
  rw [HN.out] at hcx
  clear ht3 hb3 hfx hax hx HS0 hmx h3 h4 h1 h2
  rw [HN.out]
  go_wp2_with fail
  refine (S_l20BentX r (p + 2) x _ (by omega) (rdd) (by omega)).mono ?_
  rintro _ w4 ⟨⟨t, ht, hbt, rfl⟩, h7, h8⟩
  have h8s := (h8).size; (try simp only [qsz] at h8s)
  have A4 : StrAt w4 gx ls := HAX.out.ex h8 (by omega) (by omega)
  have hfk4 : w4.frozen? ⟨gx, k, none⟩ = false := (qao (h8.block gx (by omega) (by omega))).trans hfk
  have hc4 := A4.cell k x HX.out
  have HA4 := qhd A4
  have HT := qhd hbt
  clear A4 hcell hfk hbt
  go_wp2
  all_goals (try go_returns)
  all_goals
   refine HR.out _ _ ⟨_, ls.set k t, p + 6, rfl, Turned.set HSZ.out k ⟨by omega, Or.inr (Or.inl ⟨x, List.mem_of_getElem? HX.out, HT.out⟩)⟩, ?_, by omega, rdd, eexx⟩
   refine StrAt.sl (l := ls.set k t) ⟨by first | (simp [World.setCell]; done) | (simp [World.setCell]; omega), fun j y hj => ?_⟩ (by simp [HN.out]) hcx HMX2.out (fun y hy => ?_) (Nat.zero_le _)
   ·rw [List.getElem?_set] at hj
    by_cases hkj : k = j
    ·subst hkj
     have hkl : k < ls.length := by rw [HN.out]; exact hkn
     rw [if_pos rfl, if_pos hkl] at hj
     cases hj
     rw [World.cell?_setCell_same _ _ _ hc4]
    ·rw [if_neg hkj] at hj
     rw [World.cell?_setCell_other _ _ _ _ (by intro e; simp at e <;> omega)]
     exact HA4.out.cell j y hj
   ·rcases List.mem_or_eq_of_mem_set hy with hm | rfl
    ·have := HSZ.out y hm; unfold maxLen; omega
    ·unfold maxLen; omega
 ·clear hy
  have v1 : IntKind.i64.wrap ((k : Int) + 1) = (k : Int) + 1 := IntWalk.i64_in _ (by omega)
  have v2 : ((k : Int) + 1).toNat = k + 1 := by omega
  have v3 : 0 ≤ (k : Int) + 1 := by omega
  have q1 : (k : Int) ≤ (n : Int) := by omega
  have q2 : (k : Int) ≤ (cap : Int) := by omega
  have q3 : (k : Int) + 1 ≤ (n : Int) := by omega
  have q4 : (k : Int) + 1 ≤ (cap : Int) := by omega
  have q5 : k ≤ n := by omega
  have q6 : k ≤ cap := by omega
  have SK : Hid (∀ W, relyC w2 W → Src 1 W (.slice (some ⟨g, 0, none⟩) k cap) (rowsOf (ls.take k))) := qhd fun W hW => by
   have h9 := (A2.out.below hW).take k
   have h8 := h9.src (c := cap)
   rwa [List.length_take, Nat.min_eq_left (by rw [HN.out]; omega)] at h8
  go_wp2_with fail
  refine wp_region_rely 9 (relyC w2) relyG (cutF w2.heap.size k (.slice (some ⟨g, 0, none⟩) n cap) (.slice (some ⟨g, 0, none⟩) k cap) ls) (by kernel_rfl) (by decide) (by kernel_rfl) (Or.inr ⟨by kernel_rfl, by kernel_rfl⟩) (by kernel_rfl) ((Below.refl _ _).drew) (fun i u w1 w2 _ g hF => cutF_stays i u w1 w2 g hF) (fun _ _ => Below.refl _ _) ?_
  refine qai (d := 30) rfl rfl (fun wx hC hd S0 hS => ?_) (fun v0 => ?_)
  ·have hzx := relyC_size hC
   have HSS := qhd hS; clear hS hd
   go_simp
   refine HSS.out _ _ (relyC_next hC ((Below.refl _ _).alloc (Nat.le_refl _) _)) ((Below.refl _ _).alloc (Nat.le_refl _) _) ?_
   (simp only [qls, Nat.reduceAdd, cutF])
   exact Empty0.new wx _ hzx
  simp only [qnr]
  refine qai (d := 31) rfl rfl (fun wx hC hd S0 hS => ?_) (fun v1 => ?_)
  ·have HSS := qhd hS; clear hS hd
   go_simp
   exact HSS.out _ _ hC (Below.refl _ _) (by (simp only [qls, Nat.reduceAdd, cutF]))
  simp only [qnr]
  refine qai (d := 32) rfl rfl (fun wx hC hd S0 hS => ?_) (fun v2 => ?_)
  ·have HSS := qhd hS; clear hS hd
   go_simp
   exact HSS.out _ _ hC (Below.refl _ _) (by (simp only [qls, Nat.reduceAdd, cutF]))
  simp only [qnr]
  refine qai (d := 33) rfl rfl (fun wx hC hd S0 hS => ?_) (fun v3 => ?_)
  ·have d1 := hd ⟨1, .data⟩ (by simp) rfl v1 (by simp)
   simp only [cutF] at d1
   have d2 := hd ⟨2, .data⟩ (by simp) rfl v2 (by simp)
   simp only [cutF] at d2
   subst d1; subst d2
   have HSS := qhd hS; clear hS hd
   go_simp
   exact HSS.out _ _ hC (Below.refl _ _) (by (simp only [qls, Nat.reduceAdd, cutF]))
  simp only [qnr]
  refine qai (d := 34) rfl rfl (fun wx hC hd S0 hS => ?_) (fun v4 => ?_)
  ·have d0 := hd ⟨0, .data⟩ (by simp) rfl v0 (by simp)
   simp only [cutF] at d0
   have d3 := hd ⟨3, .data⟩ (by simp) rfl v3 (by simp)
   simp only [cutF] at d3
   subst d3
   have hzx := relyC_size hC
   have HSS := qhd hS; clear hS hd
   obtain ⟨v', w', hr, h2, h3⟩ := run_append_copy (ty := 28) sty_Str qak rStr_one d0 (SK.out wx hC) (rowsOf_rows fun x hx => by have := HSZ.out x (List.mem_of_mem_take hx); unfold maxLen; omega) (by rw [List.length_take]; omega) (Nat.le_refl _) hzx
   refine wp_of_append (.tmp 30) (.tmp 33) 28 rfl rfl rfl hr ⟨put_defers' _ _ _, ?_⟩
   rw [qae (by simp)]
   exact HSS.out _ _ (relyC_next hC h3) h3 (by (simp only [qls, Nat.reduceAdd, cutF]); exact h2)
  simp only [qnr]
  refine qai (d := 35) rfl rfl (fun wx hC hd S0 hS => ?_) (fun v5 => ?_)
  ·have HSS := qhd hS; clear hS hd
   go_simp
   exact HSS.out _ _ hC (Below.refl _ _) (by (simp only [qls, Nat.reduceAdd, cutF]))
  simp only [qnr]
  refine qai (d := 36) rfl rfl (fun wx hC hd S0 hS => ?_) (fun v6 => ?_)
  ·have HSS := qhd hS; clear hS hd
   go_simp
   exact HSS.out _ _ hC (Below.refl _ _) (by (simp only [qls, Nat.reduceAdd, cutF]))
  simp only [qnr]
  refine qai (d := 37) rfl rfl (fun wx hC hd S0 hS => ?_) (fun v7 => ?_)
  ·have d6 := hd ⟨6, .data⟩ (by simp) rfl v6 (by simp)
   simp only [cutF] at d6
   subst d6
   have HSS := qhd hS; clear hS hd
   go_simp
   exact HSS.out _ _ hC (Below.refl _ _) (by (simp only [qls, Nat.reduceAdd, cutF]))
  simp only [qnr]
  refine qai (d := 38) rfl rfl (fun wx hC hd S0 hS => ?_) (fun v8 => ?_)
  ·have d5 := hd ⟨5, .data⟩ (by simp) rfl v5 (by simp)
   simp only [cutF] at d5
   have d7 := hd ⟨7, .data⟩ (by simp) rfl v7 (by simp)
   simp only [cutF] at d7
   subst d5; subst d7
   have HSS := qhd hS; clear hS hd
   go_simp
   exact HSS.out _ _ hC (Below.refl _ _) (by (simp only [qls, Nat.reduceAdd, cutF]); exact (A2.out.below hC).src_drop HN.out hlc k)
  simp only [qnr]
  intro w3 hC hF
  have f4 := hF 4 v4 (by simp)
  have f8 := hF 8 v8 (by simp)
  simp only [cutF] at f4 f8
  have E3 : Ex r w.heap.size w w3 := (show Ex r w.heap.size w w2 from eexx).trans ⟨hC.os, hC.tape, hC.output, hC.size, fun j _ hl => hC.block j (by omega)⟩
  have R3 : Rd w3 r (p + 2) := rd_below hC h3 (by omega)
  have hz3 := hC.size
  clear hF hC
  simp only [List.drop_succ_cons, List.drop_zero]
  go_wp2_with (at_builtin; refine qam (B := w2.heap.size) (lo := w2.heap.size) (xs := ls.take k) (ys := ls.drop (k + 1)) (css := rowsOf (ls.drop (k + 1))) (E := NoT) (by rfl) (.tmp 34) (.tmp 38) 28 (by rfl) sty_Str qak (fun h => h) rStr_one (by rfl) (by rfl) f4 f8 (rowsOf_rows fun x hx => by have := HSZ.out x (List.mem_of_mem_drop hx); unfold maxLen; omega) (by rw [List.length_take, List.length_drop, HN.out]; omega) (Nat.le_refl _) hz3 ?_)
  intro v9 w4 ht4 hb4 hg4 hk4 hat4
  have hs4 := hb4.size
  clear hg4 hk4 hat4 f8
  go_wp2
  all_goals (try go_returns)
  all_goals
   refine HR.out _ _ ⟨_, ls.take k ++ ls.drop (k + 1), p + 2, rfl, Turned.cut HSZ.out k, (ht4.sl.sl (fun _ _ h => h)).low rStr_good (Nat.zero_le _), by omega, rd_below hb4 R3 (by omega), E3.trans ⟨hb4.os, hb4.tape, hb4.output, hb4.size, fun j _ hl => hb4.block j (by omega)⟩⟩
 ·clear hy
  obtain ⟨x, hx⟩ : ∃ x, ls[k]? = some x := ⟨_, List.getElem?_eq_getElem (by rw [HN.out]; exact hkn)⟩
  have hxs := HSZ.out x (List.mem_of_getElem? hx)
  have HX := qhd hx
  clear hx
  have q1 : (k : Int) ≤ (n : Int) := by omega
  have q2 : (k : Int) ≤ (cap : Int) := by omega
  have q3 : (k : Int) < (n : Int) := by omega
  have q4 : ¬ (cap = k) := by omega
  have q5 : k ≤ n := by omega
  have q6 : k ≤ cap := by omega
  have SK : Hid (∀ W, relyC w2 W → Src 1 W (.slice (some ⟨g, 0, none⟩) k cap) (rowsOf (ls.take k))) := qhd fun W hW => by
   have h9 := (A2.out.below hW).take k
   have h8 := h9.src (c := cap)
   rwa [List.length_take, Nat.min_eq_left (by rw [HN.out]; omega)] at h8
  go_wp2_with fail
  refine wp_region_relyE 14 (relyC w2) dblG (fun _ => dblF w2.heap.size k g (.slice (some ⟨g, 0, none⟩) n cap) (.slice (some ⟨g, 0, none⟩) k cap) (.slice (some ⟨g, k, none⟩) (n - k) (cap - k)) x ls) (fun _ _ => True) dblDead (by kernel_rfl) (by decide) (by kernel_rfl) (Or.inr ⟨by kernel_rfl, by kernel_rfl⟩) (by kernel_rfl) ((Below.refl _ _).drew) (fun _ _ _ _ _ _ _ _ _ h => h) (dead_of (by kernel_rfl) (by kernel_rfl)) (fun _ => trivial) (fun _ _ _ _ _ _ _ _ => trivial) (fun _ i j u w1 w2 hne hd _ hg hF => dblF_stays i j u w1 w2 hne hd hg hF) (fun _ _ _ => Or.inr (Below.refl _ _)) ?_
  refine qac (d := 42) rfl rfl (fun wx hC hI hd S0 hS => ?_) (fun v0 => ?_)
  ·have hzx := relyC_size hC
   have HSS := qhd hS; clear hS hd hI
   go_simp
   refine HSS.out _ _ (relyC_next hC ((Below.refl _ _).alloc (Nat.le_refl _) _)) (Or.inr ((Below.refl _ _).alloc (Nat.le_refl _) _)) ?_
   (simp only [qls, Nat.reduceAdd, dblF])
   exact Empty0.new wx _ hzx
  simp only [qnr]
  refine qac (d := 43) rfl rfl (fun wx hC hI hd S0 hS => ?_) (fun v1 => ?_)
  ·have HSS := qhd hS; clear hS hd hI
   go_simp
   exact HSS.out _ _ hC (Or.inr (Below.refl _ _)) (by (simp only [qls, Nat.reduceAdd, dblF]))
  simp only [qnr]
  refine qac (d := 44) rfl rfl (fun wx hC hI hd S0 hS => ?_) (fun v2 => ?_)
  ·have HSS := qhd hS; clear hS hd hI
   go_simp
   exact HSS.out _ _ hC (Or.inr (Below.refl _ _)) (by (simp only [qls, Nat.reduceAdd, dblF]))
  simp only [qnr]
  refine qac (d := 45) rfl rfl (fun wx hC hI hd S0 hS => ?_) (fun v3 => ?_)
  ·have d1 := hd ⟨1, .data⟩ (by simp) rfl v1 (by simp)
   simp only [dblF] at d1
   have d2 := hd ⟨2, .data⟩ (by simp) rfl v2 (by simp)
   simp only [dblF] at d2
   subst d1; subst d2
   have HSS := qhd hS; clear hS hd hI
   go_simp
   exact HSS.out _ _ hC (Or.inr (Below.refl _ _)) (by (simp only [qls, Nat.reduceAdd, dblF]))
  simp only [qnr]
  refine qac (d := 46) rfl rfl (fun wx hC hI hd S0 hS => ?_) (fun v4 => ?_)
  ·have d0 := hd ⟨0, .data⟩ (by simp) rfl v0 (by simp)
   simp only [dblF] at d0
   have d3 := hd ⟨3, .data⟩ (by simp) rfl v3 (by simp)
   simp only [dblF] at d3
   subst d3
   have hzx := relyC_size hC
   have HSS := qhd hS; clear hS hd hI
   obtain ⟨v', w', hr, h2, h3⟩ := run_append_copy (ty := 28) sty_Str qak rStr_one d0 (SK.out wx hC) (rowsOf_rows fun x hx => by have := HSZ.out x (List.mem_of_mem_take hx); unfold maxLen; omega) (by rw [List.length_take]; omega) (Nat.le_refl _) hzx
   refine wp_of_append (.tmp 42) (.tmp 45) 28 rfl rfl rfl hr ⟨put_defers' _ _ _, ?_⟩
   rw [qae (by simp)]
   exact HSS.out _ _ (relyC_next hC h3) (Or.inr h3) (by (simp only [qls, Nat.reduceAdd, dblF]); exact h2)
  simp only [qnr]
  refine qac (d := 47) rfl rfl (fun wx hC hI hd S0 hS => ?_) (fun v5 => ?_)
  ·have HSS := qhd hS; clear hS hd hI
   go_simp
   exact HSS.out _ _ hC (Or.inr (Below.refl _ _)) (by (simp only [qls, Nat.reduceAdd, dblF]))
  simp only [qnr]
  refine qac (d := 48) rfl rfl (fun wx hC hI hd S0 hS => ?_) (fun v6 => ?_)
  ·have HSS := qhd hS; clear hS hd hI
   go_simp
   exact HSS.out _ _ hC (Or.inr (Below.refl _ _)) (by (simp only [qls, Nat.reduceAdd, dblF]))
  simp only [qnr]
  refine qac (d := 49) rfl rfl (fun wx hC hI hd S0 hS => ?_) (fun v7 => ?_)
  ·have d5 := hd ⟨5, .data⟩ (by simp) rfl v5 (by simp)
   simp only [dblF] at d5
   have d6 := hd ⟨6, .data⟩ (by simp) rfl v6 (by simp)
   simp only [dblF] at d6
   subst d5; subst d6
   have HSS := qhd hS; clear hS hd hI
   go_simp
   exact HSS.out _ _ hC (Or.inr (Below.refl _ _)) (by (simp only [qls, Nat.reduceAdd, dblF]))
  simp only [qnr]
  refine qac (d := 50) rfl rfl (fun wx hC hI hd S0 hS => ?_) (fun v8 => ?_)
  ·have d7 := hd ⟨7, .data⟩ (by simp) rfl v7 (by simp)
   simp only [dblF] at d7
   subst d7
   have c0 := (A2.out.below hC).cell k x HX.out
   have HSS := qhd hS; clear hS hd hI
   go_simp
   exact HSS.out _ _ hC (Or.inr (Below.refl _ _)) (by (simp only [qls, Nat.reduceAdd, dblF]))
  simp only [qnr]
  refine qac (d := 51) rfl rfl (fun wx hC hI hd S0 hS => ?_) (fun v9 => ?_)
  ·have d8 := hd ⟨8, .data⟩ (by simp) rfl v8 (by simp)
   simp only [dblF] at d8
   subst d8
   have HSS := qhd hS; clear hS hd hI
   go_simp
   refine HSS.out _ _ (relyC_next hC ((Below.refl _ _).alloc (Nat.le_refl _) _)) (Or.inr ((Below.refl _ _).alloc (Nat.le_refl _) _)) ?_
   (simp only [qls, Nat.reduceAdd, dblF])
   exact Src.new (k := 1) (cs := [.string x])
  simp only [qnr]
  refine qac (d := 52) rfl rfl (fun wx hC hI hd S0 hS => ?_) (fun v10 => ?_)
  ·have d4 := hd ⟨4, .data⟩ (by simp) rfl v4 (by simp)
   simp only [dblF] at d4
   have d9 := hd ⟨9, .data⟩ (by simp) rfl v9 (by simp)
   simp only [dblF] at d9
   have hzx := relyC_size hC
   have HSS := qhd hS; clear hS hd hI
   obtain ⟨v', w', hr, h2, h3, _⟩ := run_append_F (ty := 28) (E := NoT) sty_Str qak (fun h => h) rStr_one d4 d9 (Rows.one rfl ⟨rfl, by unfold maxLen; omega⟩) (by rw [List.length_take]; simp; omega) (Nat.le_refl _) hzx
   refine wp_of_append (.tmp 46) (.tmp 51) 28 rfl rfl rfl hr ⟨put_defers' _ _ _, ?_⟩
   rw [qae (by simp)]
   exact HSS.out _ _ (Below.trans hC h3) (Or.inl (by simp)) (by (simp only [qls, Nat.reduceAdd, dblF]); exact h2)
  simp only [qnr]
  refine qac (d := 53) rfl rfl (fun wx hC hI hd S0 hS => ?_) (fun v11 => ?_)
  ·have HSS := qhd hS; clear hS hd hI
   go_simp
   exact HSS.out _ _ hC (Or.inr (Below.refl _ _)) (by (simp only [qls, Nat.reduceAdd, dblF]))
  simp only [qnr]
  refine qac (d := 54) rfl rfl (fun wx hC hI hd S0 hS => ?_) (fun v12 => ?_)
  ·have HSS := qhd hS; clear hS hd hI
   go_simp
   exact HSS.out _ _ hC (Or.inr (Below.refl _ _)) (by (simp only [qls, Nat.reduceAdd, dblF]))
  simp only [qnr]
  refine qac (d := 55) rfl rfl (fun wx hC hI hd S0 hS => ?_) (fun v13 => ?_)
  ·have d11 := hd ⟨11, .data⟩ (by simp) rfl v11 (by simp)
   simp only [dblF] at d11
   have d12 := hd ⟨12, .data⟩ (by simp) rfl v12 (by simp)
   simp only [dblF] at d12
   subst d11; subst d12
   have HSS := qhd hS; clear hS hd hI
   go_simp
   exact HSS.out _ _ hC (Or.inr (Below.refl _ _)) (by (simp only [qls, Nat.reduceAdd, dblF]))
  simp only [qnr]
  intro w3 hC hF
  have f10 := hF 10 v10 (by simp) (by intro j _; simp [dblDead])
  have f13 := hF 13 v13 (by simp) (by intro j _; simp [dblDead])
  simp only [dblF] at f10 f13
  subst f13
  have E3 : Ex r w.heap.size w w3 := (show Ex r w.heap.size w w2 from eexx).trans ⟨hC.os, hC.tape, hC.output, hC.size, fun j _ hl => hC.block j (by omega)⟩
  have R3 : Rd w3 r (p + 2) := rd_below hC h3 (by omega)
  have hz3 := hC.size
  have S3 := (A2.out.below hC).src_tail HN.out hlc k
  clear hF hC
  simp only [List.drop_succ_cons, List.drop_zero]
  go_wp2_with (at_builtin; refine qam (B := w2.heap.size) (lo := w2.heap.size) (xs := ls.take k ++ [x]) (ys := ls.drop k) (css := rowsOf (ls.drop k)) (E := NoT) (by rfl) (.tmp 52) (.tmp 55) 28 (by rfl) sty_Str qak (fun h => h) rStr_one (by rfl) (by rfl) f10 S3 (rowsOf_rows fun x hx => by have := HSZ.out x (List.mem_of_mem_drop hx); unfold maxLen; omega) (by rw [List.length_append, List.length_take, List.length_drop, HN.out]; simp; omega) (Nat.le_refl _) hz3 ?_)
  intro v9 w4 ht4 hb4 hg4 hk4 hat4
  have hs4 := hb4.size
  clear hg4 hk4 hat4 S3
  go_wp2
  all_goals (try go_returns)
  all_goals
   refine HR.out _ _ ⟨_, (ls.take k ++ [x]) ++ ls.drop k, p + 2, rfl, Turned.put HSZ.out k ⟨by omega, Or.inl (List.mem_of_getElem? HX.out)⟩, ?_, by omega, rd_below hb4 R3 (by omega), E3.trans ⟨hb4.os, hb4.tape, hb4.output, hb4.size, fun j _ hl => hb4.block j (by omega)⟩⟩
   exact (TSl.sl (by simpa using ht4.sl) (fun _ _ h => h)).low rStr_good (Nat.zero_le _)
 all_goals
  clear hy
  have q1 : (k : Int) ≤ (n : Int) := by omega
  have q2 : (k : Int) ≤ (cap : Int) := by omega
  have q3 : (k : Int) < (n : Int) := by omega
  have q4 : ¬ (cap = k) := by omega
  have q5 : k ≤ n := by omega
  have q6 : k ≤ cap := by omega
  have hr2 : r < w2.heap.size := by omega
  have SK : Hid (∀ W, Ex r w2.heap.size w2 W → Src 1 W (.slice (some ⟨g, 0, none⟩) k cap) (rowsOf (ls.take k))) := qhd fun W hW => by
   have h9 := (A2.out.ex hW (by omega) hg2).take k
   have h8 := h9.src (c := cap)
   rwa [List.length_take, Nat.min_eq_left (by rw [HN.out]; omega)] at h8
  go_wp2_with fail
  refine wp_region_relyE 13 (Ex r w2.heap.size w2) (putG w2.heap.size r) (fun _ => putF w2.heap.size r (p + 2) k (.slice (some ⟨g, 0, none⟩) n cap) (.slice (some ⟨g, 0, none⟩) k cap) (.slice (some ⟨g, k, none⟩) (n - k) (cap - k)) ls) (putI r (p + 2)) putDead (by kernel_rfl) (by decide) (by kernel_rfl) (Or.inr ⟨by kernel_rfl, by kernel_rfl⟩) (by kernel_rfl) ((Ex.refl _ _ _).drew) (fun _ _ _ _ _ _ _ _ _ h => h) (dead_of (by kernel_rfl) (by kernel_rfl)) (fun _ _ => h3.drew) (fun i j w1 w2 hne _ hg h => putI_stays hr2 i j w1 w2 hne hg h) (fun _ i j u w1 w2 hne hd _ hg hF => putF_stays hr2 i j u w1 w2 hne hd hg hF) (fun _ _ _ => Or.inr (Or.inr (Below.refl _ _))) ?_
  refine qac (d := 57) rfl rfl (fun wx hC hI hd S0 hS => ?_) (fun v0 => ?_)
  ·have hzx := hC.size
   have HSS := qhd hS; clear hS hd hI
   go_simp
   refine HSS.out _ _ (exC_next hC ((Below.refl _ _).alloc (Nat.le_refl _) _)) (Or.inr (Or.inr ((Below.refl _ _).alloc (Nat.le_refl _) _))) ?_
   (simp only [qls, Nat.reduceAdd, putF])
   exact ⟨Empty0.new wx _ hzx, by omega⟩
  simp only [qnr]
  refine qac (d := 58) rfl rfl (fun wx hC hI hd S0 hS => ?_) (fun v1 => ?_)
  ·have HSS := qhd hS; clear hS hd hI
   go_simp
   exact HSS.out _ _ hC (Or.inr (Or.inr (Below.refl _ _))) (by (simp only [qls, Nat.reduceAdd, putF]))
  simp only [qnr]
  refine qac (d := 59) rfl rfl (fun wx hC hI hd S0 hS => ?_) (fun v2 => ?_)
  ·have HSS := qhd hS; clear hS hd hI
   go_simp
   exact HSS.out _ _ hC (Or.inr (Or.inr (Below.refl _ _))) (by (simp only [qls, Nat.reduceAdd, putF]))
  simp only [qnr]
  refine qac (d := 60) rfl rfl (fun wx hC hI hd S0 hS => ?_) (fun v3 => ?_)
  ·have d1 := hd ⟨1, .data⟩ (by simp) rfl v1 (by simp)
   simp only [putF] at d1
   have d2 := hd ⟨2, .data⟩ (by simp) rfl v2 (by simp)
   simp only [putF] at d2
   subst d1; subst d2
   have HSS := qhd hS; clear hS hd hI
   go_simp
   exact HSS.out _ _ hC (Or.inr (Or.inr (Below.refl _ _))) (by (simp only [qls, Nat.reduceAdd, putF]))
  simp only [qnr]
  refine qac (d := 61) rfl rfl (fun wx hC hI hd S0 hS => ?_) (fun v4 => ?_)
  ·have d0 := hd ⟨0, .data⟩ (by simp) rfl v0 (by simp)
   simp only [putF] at d0
   have d3 := hd ⟨3, .data⟩ (by simp) rfl v3 (by simp)
   simp only [putF] at d3
   subst d3
   have hzx := hC.size
   have HSS := qhd hS; clear hS hd hI
   obtain ⟨v', w', hr, h2, h3⟩ := run_append_copy (ty := 28) sty_Str qak rStr_one d0.1 (SK.out wx hC) (rowsOf_rows fun x hx => by have := HSZ.out x (List.mem_of_mem_take hx); unfold maxLen; omega) (by rw [List.length_take]; omega) (Nat.le_refl _) hzx
   refine wp_of_append (.tmp 57) (.tmp 60) 28 rfl rfl rfl hr ⟨put_defers' _ _ _, ?_⟩
   rw [qae (by simp)]
   exact HSS.out _ _ (exC_next hC h3) (Or.inr (Or.inr h3)) (by (simp only [qls, Nat.reduceAdd, putF]); exact h2)
  simp only [qnr]
  refine qac (d := 62) rfl rfl (fun wx hC hI hd S0 hS => ?_) (fun v5 => ?_)
  ·have HSS := qhd hS; clear hS hd hI
   go_simp
   exact HSS.out _ _ hC (Or.inr (Or.inr (Below.refl _ _))) (by (simp only [qls, Nat.reduceAdd, putF]))
  simp only [qnr]
  refine qac (d := 63) rfl rfl (fun wx hC hI hd S0 hS => ?_) (fun v6 => ?_)
  ·have d5 := hd ⟨5, .data⟩ (by simp) rfl v5 (by simp)
   simp only [putF] at d5
   subst d5
   have hRd : Rd wx r (p + 2) := hI (by simp)
   have HSS := qhd hS; clear hS hd hI
   go_simp
   refine (S_l20Ins r (p + 2) 99999 _ (by omega) (by omega) hRd (by omega)).mono ?_
   rintro _ w' ⟨⟨op, a, nm, mm, hnm, hmm, rfl⟩, ⟨q, hq, hRq⟩, hX⟩
   exact HSS.out _ _ (exC_ex hC hX) (Or.inr (Or.inl ⟨by simp, hX⟩)) (by (simp only [qls, Nat.reduceAdd, putF]); exact ⟨ins4 op a nm mm, hnm, hmm, rfl, q, hq, hRq⟩)
  simp only [qnr]
  refine qac (d := 64) rfl rfl (fun wx hC hI hd S0 hS => ?_) (fun v7 => ?_)
  ·have d6 := hd ⟨6, .data⟩ (by simp) rfl v6 (by simp)
   simp only [putF] at d6
   obtain ⟨i, hi1, hi2, d6, _⟩ := d6
   subst d6
   have HSS := qhd hS; clear hS hd hI
   go_simp
   refine (S_InsText i.fOp i.fA i.fName i.fMember _ (by unfold maxLen; omega) (by unfold maxLen; omega)).mono ?_
   rintro _ w' ⟨rfl, hX⟩
   exact HSS.out _ _ (exC_next hC hX) (Or.inr (Or.inr hX)) (by (simp only [qls, Nat.reduceAdd, putF]); exact ⟨i, by rw [tx_size]; have := insText_len hi1 hi2; omega, by rw [insText_txt]⟩)
  simp only [qnr]
  refine qac (d := 65) rfl rfl (fun wx hC hI hd S0 hS => ?_) (fun v8 => ?_)
  ·have d7 := hd ⟨7, .data⟩ (by simp) rfl v7 (by simp)
   simp only [putF] at d7
   obtain ⟨i, hi1, d7⟩ := d7
   subst d7
   have hzx := hC.size
   have HSS := qhd hS; clear hS hd hI
   go_simp
   refine HSS.out _ _ (exC_next hC ((Below.refl _ _).alloc (Nat.le_refl _) _)) (Or.inr (Or.inr ((Below.refl _ _).alloc (Nat.le_refl _) _))) ?_
   (simp only [qls, Nat.reduceAdd, putF])
   exact ⟨i, hi1, by simp; omega, wx.heap.size, rfl, hzx, StrAt.lit wx _ [tx (insText i)] _ rfl (by rfl)⟩
  simp only [qnr]
  refine qac (d := 66) rfl rfl (fun wx hC hI hd S0 hS => ?_) (fun v9 => ?_)
  ·have d4 := hd ⟨4, .data⟩ (by simp) rfl v4 (by simp)
   simp only [putF] at d4
   have d8 := hd ⟨8, .data⟩ (by simp) rfl v8 (by simp)
   simp only [putF] at d8
   obtain ⟨i, hi1, hzx, c, e8, hc8, d8⟩ := d8
   subst e8
   have HSS := qhd hS; clear hS hd hI
   obtain ⟨v', w', hr, h2, h3, _⟩ := run_append_F (ty := 28) (E := NoT) sty_Str qak (fun h => h) rStr_one d4 (d8.src (c := 1)) (rowsOf_rows fun x hx => by rw [List.mem_singleton] at hx; subst hx; unfold maxLen; omega) (by rw [List.length_take]; simp; omega) (Nat.le_refl _) hzx
   refine wp_of_append (.tmp 61) (.tmp 65) 28 rfl rfl rfl hr ⟨put_defers' _ _ _, ?_⟩
   rw [qae (by simp)]
   exact HSS.out _ _ (exC_low hC h3) (Or.inl ⟨by simp, h3⟩) (by (simp only [qls, Nat.reduceAdd, putF]); exact ⟨i, hi1, h2⟩)
  simp only [qnr]
  refine qac (d := 67) rfl rfl (fun wx hC hI hd S0 hS => ?_) (fun v10 => ?_)
  ·have HSS := qhd hS; clear hS hd hI
   go_simp
   exact HSS.out _ _ hC (Or.inr (Or.inr (Below.refl _ _))) (by (simp only [qls, Nat.reduceAdd, putF]))
  simp only [qnr]
  refine qac (d := 68) rfl rfl (fun wx hC hI hd S0 hS => ?_) (fun v11 => ?_)
  ·have HSS := qhd hS; clear hS hd hI
   go_simp
   exact HSS.out _ _ hC (Or.inr (Or.inr (Below.refl _ _))) (by (simp only [qls, Nat.reduceAdd, putF]))
  simp only [qnr]
  refine qac (d := 69) rfl rfl (fun wx hC hI hd S0 hS => ?_) (fun v12 => ?_)
  ·have d10 := hd ⟨10, .data⟩ (by simp) rfl v10 (by simp)
   simp only [putF] at d10
   have d11 := hd ⟨11, .data⟩ (by simp) rfl v11 (by simp)
   simp only [putF] at d11
   subst d10; subst d11
   have HSS := qhd hS; clear hS hd hI
   go_simp
   exact HSS.out _ _ hC (Or.inr (Or.inr (Below.refl _ _))) (by (simp only [qls, Nat.reduceAdd, putF]))
  simp only [qnr]
  intro w3 hC hF
  have f6 := hF 6 v6 (by simp) (by intro j _; simp [putDead])
  have f9 := hF 9 v9 (by simp) (by intro j _; simp [putDead])
  have f12 := hF 12 v12 (by simp) (by intro j _; simp [putDead])
  simp only [putF] at f6 f9 f12
  subst f12
  obtain ⟨_, _, _, _, q, hq, R3⟩ := f6
  obtain ⟨i, hi, f9⟩ := f9
  have E3 : Ex r w.heap.size w w3 := (show Ex r w.heap.size w w2 from eexx).trans (hC.mono (by omega))
  have hz3 := hC.size
  have S3 := (A2.out.ex hC (by omega) hg2).src_tail HN.out hlc k
  obtain ⟨x, hx⟩ : ∃ x, x = tx (insText i) := ⟨_, rfl⟩
  rw [← hx] at f9 hi
  have HX := qhd hx
  clear hF hC hx
  simp only [List.drop_succ_cons, List.drop_zero]
  go_wp2_with (at_builtin; refine qam (B := w2.heap.size) (lo := w2.heap.size) (xs := ls.take k ++ [x]) (ys := ls.drop k) (css := rowsOf (ls.drop k)) (E := NoT) (by rfl) (.tmp 66) (.tmp 69) 28 (by rfl) sty_Str qak (fun h => h) rStr_one (by rfl) (by rfl) f9 S3 (rowsOf_rows fun x hx => by have := HSZ.out x (List.mem_of_mem_drop hx); unfold maxLen; omega) (by rw [List.length_append, List.length_take, List.length_drop, HN.out]; simp; omega) (Nat.le_refl _) hz3 ?_)
  intro v14 w4 ht4 hb4 hg4 hk4 hat4
  have hs4 := hb4.size
  clear hg4 hk4 hat4 S3
  go_wp2
  all_goals (try go_returns)
  all_goals
   refine HR.out _ _ ⟨_, (ls.take k ++ [x]) ++ ls.drop k, q, rfl, Turned.put HSZ.out k ⟨by omega, Or.inr (Or.inr ⟨i, HX.out⟩)⟩, ?_, by omega, rd_below hb4 R3 (by omega), E3.trans ⟨hb4.os, hb4.tape, hb4.output, hb4.size, fun j _ hl => hb4.block j (by omega)⟩⟩
   exact (TSl.sl (by simpa using ht4.sl) (fun _ _ h => h)).low rStr_good (Nat.zero_le _)

theorem tx_piece (c : List UInt8) (s : ByteArray) (k : Nat) (h : k < s.size) : tx c ++ s.extract k (k + 1) = tx (c ++ [s[k]]) := by
 have e : s.extract k (k + 1) = tx [s[k]] := by
  apply ByteArray.ext
  rw [ByteArray.data_extract]
  show s.data.extract k (k + 1) = #[s.data[k]]
  apply Array.ext'
  rw [Array.toList_extract]
  show (s.data.toList.drop k).take (k + 1 - k) = [s.data[k]]
  rw [List.drop_eq_getElem_cons (by simpa using h), show k + 1 - k = 1 by omega]
  simp
 rw [e, tx_app]
theorem str_row (lo : Nat) (w : World) (x : ByteArray) (h : x.size ≤ maxLen) : rStr lo w [.string x] x := ⟨rfl, h⟩
theorem words_stop {c : List UInt8} {s : ByteArray} {k : Nat} (h : k < s.size) (e : s[k] = 32) : wordsGo c ((by' s).drop k) = c :: wordsGo [] ((by' s).drop (k + 1)) := by
 rw [by_drop h, wordsGo, if_pos e]
theorem words_on {c : List UInt8} {s : ByteArray} {k : Nat} (h : k < s.size) (e : ¬ s[k] = 32) : wordsGo c ((by' s).drop k) = wordsGo (c ++ [s[k]]) ((by' s).drop (k + 1)) := by
 rw [by_drop h, wordsGo, if_neg e]
theorem words_end {c : List UInt8} {s : ByteArray} {k : Nat} (h : ¬ k < s.size) : wordsGo c ((by' s).drop k) = [c] := by
 rw [List.drop_eq_nil_of_le (by rw [by_len]; omega), wordsGo]

theorem S_l1WordsL (s : ByteArray) (w : World) (hs : s.size ≤ 2000000) :
  Calls Tryz.prog 93 #[.string s] w fun e w' => ∃ v, e = .returned v ∧ TSl 1 rStr 9 w.heap.size w' v (words s) ∧ Below w.heap.size w w' := by
 have hi : (Tryz.prog.info? 9).map (fun i => (i.zero, i.size, i.bytes)) = some (some (.string ⟨#[]⟩), 1, 16) := by kernel_rfl
 have HI := qhd hi
 clear hi
 refine qab fun R HR => ?_
 go_enter Tryz.func93, Tryz.ntmps93
 go_wp2_with fail
 go_loopw [3, 4, 5] (fun ov wv iv wr => ∃ (k : Nat) (ws : List ByteArray) (c : List UInt8), k ≤ s.size ∧ iv = .int .i64 (k : Int) ∧ wv = .string (tx c) ∧ c.length ≤ k ∧ ws.length ≤ k ∧ words s = ws ++ (wordsGo c ((by' s).drop k)).map tx ∧ TSl 1 rStr 9 w.heap.size wr ov ws ∧ Below w.heap.size w wr) (fun _ _ iv _ => s.size - (intOf iv).toNat)
 case atStart =>
  exact ⟨0, [], [], Nat.zero_le _, rfl, rfl, Nat.le_refl _, Nat.le_refl _, by simp [words], ⟨[], Rows.nil, World.ownsRow_made w #[] 0 (Nat.le_refl _) (Nat.zero_le _) rfl⟩, bbel⟩
 case round =>
  obtain ⟨k, ws, c, hk, rfl, rfl, hc, hws, hw, ht, hb⟩ := hrel
  have HW := qhd hw
  have HT := qhd ht
  have hbs := hb.size
  have hcs : (tx c).size ≤ 2000000 := by rw [tx_size]; omega
  have hcm : (tx c).size ≤ maxLen := by unfold maxLen; omega
  clear hw ht
  by_cases hlt : k < s.size
  ·by_cases h32 : s[k] = 32
   ·have NW : Hid (words s = (ws ++ [tx c]) ++ (wordsGo [] ((by' s).drop (k + 1))).map tx) := qhd (by
     rw [HW.out, words_stop hlt h32]; simp)
    have hn : (s[k].toNat : Int) = 32 := by rw [h32]; rfl
    clear HW h32
    go_wp2_with (at_builtin; refine wpList_append_T (base := w.heap.size) (xs := ws) (ys := [tx c]) (css := [[.string (tx c)]]) (E := NoT) rfl (.tmp 17) (.tmp 19) 28 rfl 9 1 16 (.string ⟨#[]⟩) Tryz.underlying28 HI.out rfl (by decide) (by decide) qak id rStr_one rfl ?ht rfl ?src (Rows.one rfl (str_row _ _ _ hcm)) ?hl ?hb ?_)
    case ht => exact HT.out.below qak (bbel)
    case src => exact Src.one (by intro j u hj; cases j with | zero => cases hj; go_simp | succ j => simp at hj)
    case hl => simp; omega
    case hb => simp; omega
    intro v1 w1 ht1 hg hk1
    have HT1 := qhd ht1
    have hE1 : Below w.heap.size w w1 := (show Below w.heap.size w (wr.alloc (.cells #[.string (tx c)] 9)) from bbel).grown hg (by simp; omega) (HT.out.at_lo)
    clear ht1 hg hk1 HT
    go_wp2
    go_roundw
    case measure => simp [intOf]; omega
    case rel => exact ⟨k + 1, ws ++ [tx c], [], by omega, by go_num, rfl, by simp, by simp; omega, NW.out, HT1.out, hE1⟩
   ·have NW : Hid (words s = ws ++ (wordsGo (c ++ [s[k]]) ((by' s).drop (k + 1))).map tx) := qhd (by
     rw [HW.out, words_on hlt h32])
    have NX := qhd (tx_piece c s k hlt)
    have hn : ¬ (s[k].toNat : Int) = 32 := by
     intro e
     apply h32
     apply UInt8.toNat_inj.1
     have : s[k].toNat = 32 := by omega
     rw [this]; rfl
    clear HW h32
    go_wp2
    go_roundw
    case measure => simp [intOf]; omega
    case rel => exact ⟨k + 1, ws, c ++ [s[k]], by omega, by go_num, by rw [← NX.out], by simp; omega, by omega, NW.out, HT.out, hb⟩
  ·have NW : Hid (words s = ws ++ [tx c]) := qhd (by
    rw [HW.out, words_end hlt]; rfl)
   clear HW
   go_wp2_with (at_builtin; refine wpList_append_T (base := w.heap.size) (xs := ws) (ys := [tx c]) (css := [[.string (tx c)]]) (E := NoT) rfl (.tmp 28) (.tmp 30) 28 rfl 9 1 16 (.string ⟨#[]⟩) Tryz.underlying28 HI.out rfl (by decide) (by decide) qak id rStr_one rfl ?ht rfl ?src (Rows.one rfl (str_row _ _ _ hcm)) ?hl ?hb ?_)
   case ht => exact HT.out.below qak (bbel)
   case src => exact Src.one (by intro j u hj; cases j with | zero => cases hj; go_simp | succ j => simp at hj)
   case hl => simp; omega
   case hb => simp; omega
   intro v1 w1 ht1 hg hk1
   have HT1 := qhd ht1
   have hE1 : Below w.heap.size w w1 := (show Below w.heap.size w (wr.alloc (.cells #[.string (tx c)] 9)) from bbel).grown hg (by simp; omega) (HT.out.at_lo)
   clear ht1 hg hk1 HT
   go_wp2
   all_goals (try go_returns)
   all_goals exact HR.out _ _ ⟨v1, rfl, by rw [NW.out]; exact HT1.out, hE1⟩
theorem S_l1Words (s : ByteArray) (w : World) (hs : s.size ≤ 10000) :
  Calls Tryz.prog 93 #[.string s] w fun e w' => ∃ v, e = .returned v ∧ TSl 1 rStr 9 w.heap.size w' v (words s) ∧ Below w.heap.size w w' := S_l1WordsL s w (by omega)

def numT (x : Int × Bool) : Value := .tuple #[.int .i64 x.1, .bool x.2]
theorem neg_at {s : ByteArray} (h : 0 < s.size) : isNeg (by' s) = (s[0] == 45) := by
 have := by_drop h
 rw [List.drop_zero] at this
 rw [this]; rfl
theorem body_neg {s : ByteArray} (h : isNeg (by' s) = true) : numBody (by' s) = (by' s).drop 1 := by
 unfold numBody; rw [if_pos h, List.drop_one]
theorem body_pos {s : ByteArray} (h : isNeg (by' s) = false) : numBody (by' s) = (by' s).drop 0 := by
 unfold numBody; rw [if_neg (by rw [h]; decide), List.drop_zero]
theorem body_len {s : ByteArray} {a : Nat} (h : numBody (by' s) = (by' s).drop a) : (numBody (by' s)).length = s.size - a := by
 rw [h, List.length_drop, by_len]
theorem read_short {s : ByteArray} {a : Nat} (h : numBody (by' s) = (by' s).drop a) (hs : s.size ≤ a ∨ a + 4 < s.size) : readNum s = (0, false) := by
 unfold readNum
 rw [if_pos (by rw [body_len h]; omega)]
theorem read_bad {s : ByteArray} (h : numGo 0 (numBody (by' s)) = none) : readNum s = (0, false) := by
 unfold readNum
 split
 ·rfl
 ·rw [h]
theorem read_val {s : ByteArray} {a : Nat} {n : Int} (h : numBody (by' s) = (by' s).drop a) (hs : a < s.size ∧ s.size ≤ a + 4) (hn : numGo 0 (numBody (by' s)) = some n) : readNum s = (if isNeg (by' s) then -n else n, numText (if isNeg (by' s) then -n else n) == by' s) := by
 unfold readNum
 rw [if_neg (by rw [body_len h]; omega), hn]
theorem num_step {s : ByteArray} {k : Nat} {m : Int} (h : k < s.size) (hd : isDig s[k] = true) : numGo m ((by' s).drop k) = numGo (m * 10 + digVal s[k]) ((by' s).drop (k + 1)) := by
 rw [by_drop h, numGo, if_pos hd]
theorem num_stop {s : ByteArray} {k : Nat} {m : Int} (h : k < s.size) (hd : isDig s[k] = false) : numGo m ((by' s).drop k) = none := by
 rw [by_drop h, numGo, if_neg (by rw [hd]; decide)]
theorem num_end {s : ByteArray} {k : Nat} {m : Int} (h : ¬ k < s.size) : numGo m ((by' s).drop k) = some m := by
 rw [List.drop_eq_nil_of_le (by rw [by_len]; omega), numGo]
def Below4 (m : Int) (j : Nat) : Prop := 0 ≤ m ∧ ((j = 0 ∧ m = 0) ∨ (j = 1 ∧ m ≤ 9) ∨ (j = 2 ∧ m ≤ 99) ∨ (j = 3 ∧ m ≤ 999) ∨ (j = 4 ∧ m ≤ 9999))


theorem dig_no {c : UInt8} (h : isDig c = false) : ((c.toNat : Int) < 48) ∨ (57 < (c.toNat : Int)) := by
 unfold isDig at h
 simp at h
 omega
theorem dig_yes {c : UInt8} (h : isDig c = true) : 48 ≤ (c.toNat : Int) ∧ (c.toNat : Int) ≤ 57 := by
 unfold isDig at h
 simp at h
 omega

theorem S_l1ReadL (s : ByteArray) (w : World) (hs : s.size ≤ 2000000) :
  Calls Tryz.prog 108 #[.string s] w fun e w' => e = .returned (numT (readNum s)) ∧ Below w.heap.size w w' := by
 cases hneg : isNeg (by' s)
 ·have BD := qhd (body_pos hneg)
  by_cases h0 : 0 < s.size
  ·have h45 : ((s[0].toNat : Int) == 45) = false := by
    rw [neg_at h0] at hneg
    rw [beq_eq_false_iff_ne]
    intro e
    have : s[0] = 45 := by
     apply UInt8.toNat_inj.1
     have : s[0].toNat = 45 := by omega
     rw [this]; rfl
    rw [this] at hneg
    cases hneg
   have NG := qhd hneg
   by_cases hsh : s.size ≤ 0 ∨ 0 + 4 < s.size
   ·have RV := qhd (read_short BD.out hsh)
    have g1 : ((s.size : Int) == 0) = decide (s.size = 0) := by rw [Bool.eq_iff_iff]; (try simp); (try omega)
    clear hneg
    by_cases hz : s.size = 0
    ·(refine qab fun R HR => ?_; go_enter Tryz.func108, Tryz.ntmps108)
     go_wp2
     all_goals (try go_returns)
     all_goals exact HR.out _ _ ⟨by rw [RV.out]; rfl, bbel⟩
    ·have hz2 : 0 + 4 < s.size := by omega
     (refine qab fun R HR => ?_; go_enter Tryz.func108, Tryz.ntmps108)
     go_wp2
     all_goals (try go_returns)
     all_goals exact HR.out _ _ ⟨by rw [RV.out]; rfl, bbel⟩
   have hsz : 0 < s.size ∧ s.size ≤ 0 + 4 := by omega
   have g2 : ((s.size : Int) == 0) = false := by rw [beq_eq_false_iff_ne]; omega
   have g3 : decide ((4 : Int) < (s.size : Int)) = false := by rw [decide_eq_false_iff_not]; omega
   clear hneg hsh
   (refine qab fun R HR => ?_; go_enter Tryz.func108, Tryz.ntmps108)
   go_wp2_with fail
   go_loopw [4, 6] (fun nv iv wr => ∃ (m : Int) (k : Nat), 0 ≤ k ∧ k ≤ s.size ∧ nv = .int .i64 m ∧ iv = .int .i64 (k : Int) ∧ Below4 m (k - 0) ∧ numGo 0 (numBody (by' s)) = numGo m ((by' s).drop k) ∧ Below w.heap.size w wr) (fun _ iv _ => s.size - (intOf iv).toNat)
   case atStart => exact ⟨0, 0, Nat.le_refl _, by omega, rfl, rfl, ⟨by decide, .inl ⟨by decide, rfl⟩⟩, by rw [BD.out], bbel⟩
   case round =>
    obtain ⟨m, k, hak, hks, rfl, rfl, hb4, hgo, hb⟩ := hrel
    have GO := qhd hgo
    have HB4 := qhd hb4
    have hm : 0 ≤ m ∧ m ≤ 9999 := by obtain ⟨h1, h2⟩ := hb4; omega
    have hbs := hb.size
    clear hgo hb4
    by_cases hlt : k < s.size
    ·cases hd : isDig s[k]
     ·have RV : Hid (readNum s = (0, false)) := qhd (read_bad (by rw [GO.out, num_stop hlt hd]))
      have hdd := dig_no hd
      clear hd
      rcases hdd with hdd | hdd
      ·go_wp2
       all_goals (try go_returns)
       all_goals exact HR.out _ _ ⟨by rw [RV.out]; rfl, bbel⟩
      ·have hd2 : ¬ ((s[k].toNat : Int) < 48) := by omega
       go_wp2
       all_goals (try go_returns)
       all_goals exact HR.out _ _ ⟨by rw [RV.out]; rfl, bbel⟩
     ·have GN : Hid (numGo 0 (numBody (by' s)) = numGo (m * 10 + digVal s[k]) ((by' s).drop (k + 1))) := qhd (by rw [GO.out, num_step hlt hd])
      have hdd := dig_yes hd
      have g1 : IntKind.u8.wrap ((s[k].toNat : Int) - 48) = (s[k].toNat : Int) - 48 := IntWalk.u8_in _ (by omega)
      have NB : Hid (Below4 (m * 10 + digVal s[k]) (k + 1 - 0)) := qhd (by
       obtain ⟨h1, h2⟩ := HB4.out
       unfold Below4 digVal
       omega)
      have hnn : m * 10 + ((s[k].toNat : Int) - 48) ≤ 99999 := by omega
      clear hd
      go_wp2
      go_roundw
      case measure => simp [intOf]; omega
      case rel => exact ⟨m * 10 + digVal s[k], k + 1, by omega, by omega, by first | rfl | go_num, by go_num, NB.out, GN.out, hb⟩
    ·have RV : Hid (readNum s = (m, numText (m) == by' s)) := qhd (by
      rw [read_val BD.out hsz (by rw [GO.out, num_end hlt]), NG.out]; rfl)
     have CN : ∀ W, Calls Tryz.prog 92 #[.int .i64 (m)] W fun e w' => e = .returned (.string (tx (Lib.itoa (m)))) ∧ Below W.heap.size W w' := fun W => S_l1Num (m) W (by omega)
     have NT : Hid (readNum s = (m, (tx (Lib.itoa (m))).toList == s.toList)) := qhd (by rw [RV.out, numText_itoa (by omega), ByteArray.toList_eq, ByteArray.toList_eq]; rfl)
     go_wp2_with fail
     refine (CN _).mono ?_
     rintro _ w1 ⟨rfl, h1⟩
     go_wp2
     all_goals (try go_returns)
     all_goals exact HR.out _ _ ⟨by rw [NT.out]; rfl, bbel⟩
  ·have hz : s.size = 0 := by omega
   have RV := qhd (read_short BD.out (.inl (by omega)))
   clear hneg
   refine qab fun R HR => ?_
   go_enter Tryz.func108, Tryz.ntmps108
   go_wp2
   all_goals (try go_returns)
   all_goals exact HR.out _ _ ⟨by rw [RV.out]; rfl, bbel⟩
 ·have BD := qhd (body_neg hneg)
  have h0 : 0 < s.size := by
   by_cases h : 0 < s.size
   ·exact h
   ·rw [show by' s = [] from List.eq_nil_of_length_eq_zero (by rw [by_len]; omega)] at hneg
    cases hneg
  have h45 : (s[0].toNat : Int) = 45 := by
   rw [neg_at h0] at hneg
   rw [beq_iff_eq.1 hneg]; rfl
  have NG := qhd hneg
  by_cases hsh : s.size ≤ 1 ∨ 1 + 4 < s.size
  ·have RV := qhd (read_short BD.out hsh)
   have g1 : ((s.size : Int) == 1) = decide (s.size = 1) := by rw [Bool.eq_iff_iff]; (try simp); (try omega)
   clear hneg
   by_cases hz : s.size = 1
   ·(refine qab fun R HR => ?_; go_enter Tryz.func108, Tryz.ntmps108)
    go_wp2
    all_goals (try go_returns)
    all_goals exact HR.out _ _ ⟨by rw [RV.out]; rfl, bbel⟩
   ·have hz2 : 1 + 4 < s.size := by omega
    (refine qab fun R HR => ?_; go_enter Tryz.func108, Tryz.ntmps108)
    go_wp2
    all_goals (try go_returns)
    all_goals exact HR.out _ _ ⟨by rw [RV.out]; rfl, bbel⟩
  have hsz : 1 < s.size ∧ s.size ≤ 1 + 4 := by omega
  have g2 : ((s.size : Int) == 1) = false := by rw [beq_eq_false_iff_ne]; omega
  have g3 : decide ((5 : Int) < (s.size : Int)) = false := by rw [decide_eq_false_iff_not]; omega
  clear hneg hsh
  (refine qab fun R HR => ?_; go_enter Tryz.func108, Tryz.ntmps108)
  go_wp2_with fail
  go_loopw [4, 6] (fun nv iv wr => ∃ (m : Int) (k : Nat), 1 ≤ k ∧ k ≤ s.size ∧ nv = .int .i64 m ∧ iv = .int .i64 (k : Int) ∧ Below4 m (k - 1) ∧ numGo 0 (numBody (by' s)) = numGo m ((by' s).drop k) ∧ Below w.heap.size w wr) (fun _ iv _ => s.size - (intOf iv).toNat)
  case atStart => exact ⟨0, 1, Nat.le_refl _, by omega, rfl, rfl, ⟨by decide, .inl ⟨by decide, rfl⟩⟩, by rw [BD.out], bbel⟩
  case round =>
   obtain ⟨m, k, hak, hks, rfl, rfl, hb4, hgo, hb⟩ := hrel
   have GO := qhd hgo
   have HB4 := qhd hb4
   have hm : 0 ≤ m ∧ m ≤ 9999 := by obtain ⟨h1, h2⟩ := hb4; omega
   have hbs := hb.size
   clear hgo hb4
   by_cases hlt : k < s.size
   ·cases hd : isDig s[k]
    ·have RV : Hid (readNum s = (0, false)) := qhd (read_bad (by rw [GO.out, num_stop hlt hd]))
     have hdd := dig_no hd
     clear hd
     rcases hdd with hdd | hdd
     ·go_wp2
      all_goals (try go_returns)
      all_goals exact HR.out _ _ ⟨by rw [RV.out]; rfl, bbel⟩
     ·have hd2 : ¬ ((s[k].toNat : Int) < 48) := by omega
      go_wp2
      all_goals (try go_returns)
      all_goals exact HR.out _ _ ⟨by rw [RV.out]; rfl, bbel⟩
    ·have GN : Hid (numGo 0 (numBody (by' s)) = numGo (m * 10 + digVal s[k]) ((by' s).drop (k + 1))) := qhd (by rw [GO.out, num_step hlt hd])
     have hdd := dig_yes hd
     have g1 : IntKind.u8.wrap ((s[k].toNat : Int) - 48) = (s[k].toNat : Int) - 48 := IntWalk.u8_in _ (by omega)
     have NB : Hid (Below4 (m * 10 + digVal s[k]) (k + 1 - 1)) := qhd (by
      obtain ⟨h1, h2⟩ := HB4.out
      unfold Below4 digVal
      omega)
     have hnn : m * 10 + ((s[k].toNat : Int) - 48) ≤ 99999 := by omega
     clear hd
     go_wp2
     go_roundw
     case measure => simp [intOf]; omega
     case rel => exact ⟨m * 10 + digVal s[k], k + 1, by omega, by omega, by first | rfl | go_num, by go_num, NB.out, GN.out, hb⟩
   ·have RV : Hid (readNum s = (-m, numText (-m) == by' s)) := qhd (by
     rw [read_val BD.out hsz (by rw [GO.out, num_end hlt]), NG.out]; rfl)
    have CN : ∀ W, Calls Tryz.prog 92 #[.int .i64 (-m)] W fun e w' => e = .returned (.string (tx (Lib.itoa (-m)))) ∧ Below W.heap.size W w' := fun W => S_l1Num (-m) W (by omega)
    have NT : Hid (readNum s = (-m, (tx (Lib.itoa (-m))).toList == s.toList)) := qhd (by rw [RV.out, numText_itoa (by omega), ByteArray.toList_eq, ByteArray.toList_eq]; rfl)
    go_wp2_with fail
    refine (CN _).mono ?_
    rintro _ w1 ⟨rfl, h1⟩
    go_wp2
    all_goals (try go_returns)
    all_goals exact HR.out _ _ ⟨by rw [NT.out]; rfl, bbel⟩
theorem S_l1Read (s : ByteArray) (w : World) (hs : s.size ≤ 10000) :
  Calls Tryz.prog 108 #[.string s] w fun e w' => e = .returned (numT (readNum s)) ∧ Below w.heap.size w w' := S_l1ReadL s w (by omega)

theorem str_cells {e : TypeId} {lo : Nat} {w : World} {v : Value} {xs : List ByteArray} (h : TSl 1 rStr e lo w v xs) (hn : 0 < xs.length) :
  ∃ g cap, v = .slice (some ⟨g, 0, none⟩) xs.length cap ∧ lo ≤ g ∧ xs.length ≤ cap ∧ cap ≤ maxLen ∧ (∀ j x, xs[j]? = some x → w.cell? ⟨g, j, none⟩ = some (.string x)) := by
 obtain ⟨css, h1, h2⟩ := h
 obtain ⟨g, cap, e1, e2, e3, e4, e5, e6, _⟩ := own_cell h2 hn
 refine ⟨g, cap, e1, e2, e4, e5, fun j x hx => ?_⟩
 obtain ⟨cs, hcs⟩ : ∃ cs, css[j]? = some cs := ⟨_, List.getElem?_eq_getElem (by rw [h1.len]; exact (List.getElem?_eq_some_iff.1 hx).1)⟩
 obtain ⟨hk, rfl, _⟩ := h1.row j x cs hx hcs
 have := flat_at h1.each hcs (j := 0) (by decide)
 rw [Nat.mul_one, Nat.add_zero] at this
 exact e6 j _ this
structure Four (w : World) (b : Nat) (x0 x1 x2 x3 : Value) : Prop where
 lt : b < w.heap.size
 c0 : w.cell? ⟨b, 0, none⟩ = some x0
 c1 : w.cell? ⟨b, 1, none⟩ = some x1
 c2 : w.cell? ⟨b, 2, none⟩ = some x2
 c3 : w.cell? ⟨b, 3, none⟩ = some x3
 f0 : w.frozen? ⟨b, 0, none⟩ = false
 f1 : w.frozen? ⟨b, 1, none⟩ = false
 f2 : w.frozen? ⟨b, 2, none⟩ = false
 f3 : w.frozen? ⟨b, 3, none⟩ = false
theorem Four.keep {w w' : World} {b : Nat} {x0 x1 x2 x3 : Value} (h : Four w b x0 x1 x2 x3) (hb : Below w.heap.size w w') : Four w' b x0 x1 x2 x3 :=
 ⟨Nat.lt_of_lt_of_le h.lt hb.size, qad hb h.c0, qad hb h.c1, qad hb h.c2, qad hb h.c3, (hb.frozen h.lt).trans h.f0, (hb.frozen h.lt).trans h.f1, (hb.frozen h.lt).trans h.f2, (hb.frozen h.lt).trans h.f3⟩
theorem Four.new (w : World) (x0 x1 x2 x3 : Value) (t : TypeId) : Four (w.alloc (.cells #[x0, x1, x2, x3] t)) w.heap.size x0 x1 x2 x3 := by
 refine ⟨by simp, ?_, ?_, ?_, ?_, ?_, ?_, ?_, ?_⟩ <;> go_simp
def insT (x : DClsIns × Bool) : Value := .tuple #[.agg #[.int .i64 x.1.fOp, .int .i64 x.1.fA, .string x.1.fName, .string x.1.fMember], .bool x.2]
theorem tx_by' (s : ByteArray) : tx (by' s) = s := tx_by s
theorem isW_iff {s : ByteArray} {l : List UInt8} : isW s l = true ↔ s = tx l := by
 unfold isW
 rw [beq_iff_eq]
 constructor
 ·intro h; rw [← h, tx_by']
 ·intro h; rw [h]; rfl
theorem insTry_long {op : Int} {s : ByteArray} (h : 30 < s.size) : insTry op s = (nilIns, false) := by
 unfold insTry; rw [if_pos (.inl h)]
theorem insTry_no {op : Int} {s : ByteArray} (h : (tx (insTxt (insOf op (words s)).fOp (insOf op (words s)).fA (insOf op (words s)).fName (insOf op (words s)).fMember)).toList ≠ s.toList) : insTry op s = (nilIns, false) := by
 unfold insTry
 refine if_pos (.inr ?_)
 rw [insText_txt]
 intro e
 apply h
 rw [e, tx_by']
theorem insTry_yes {op : Int} {s : ByteArray} (h0 : ¬ 30 < s.size) (h : (tx (insTxt (insOf op (words s)).fOp (insOf op (words s)).fA (insOf op (words s)).fName (insOf op (words s)).fMember)).toList = s.toList) : insTry op s = (insOf op (words s), true) := by
 unfold insTry
 refine if_neg ?_
 rintro (h1 | h1)
 ·exact h0 h1
 ·apply h1
  rw [insText_txt]
  rw [ByteArray.toList_eq, ByteArray.toList_eq] at h
  exact h

theorem ins_fin {op A : Int} {N M s : ByteArray} (h : insOf op (words s) = ⟨op, A, N, M⟩) (R : insRead s = insTry op s) :
  (decide ((30 : Int) < (s.size : Int)) = true ∧ Hid (insRead s = (nilIns, false))) ∨ (decide ((30 : Int) < (s.size : Int)) = false ∧ ((tx (insTxt op A N M)).toList == s.toList) = true ∧ Hid (insRead s = (⟨op, A, N, M⟩, true))) ∨ (decide ((30 : Int) < (s.size : Int)) = false ∧ ((tx (insTxt op A N M)).toList == s.toList) = false ∧ Hid (insRead s = (nilIns, false))) := by
 by_cases hl : 30 < s.size
 ·exact .inl ⟨by simp; omega, qhd (R.trans (insTry_long hl))⟩
 ·have hd : decide ((30 : Int) < (s.size : Int)) = false := by rw [decide_eq_false_iff_not]; omega
  cases ht : ((tx (insTxt op A N M)).toList == s.toList)
  ·exact .inr (.inr ⟨hd, rfl, qhd (R.trans (insTry_no (by rw [h]; exact beq_eq_false_iff_ne.1 ht)))⟩)
  ·exact .inr (.inl ⟨hd, rfl, qhd ((R.trans (insTry_yes hl (by rw [h]; exact beq_iff_eq.1 ht))).trans (by rw [h]))⟩)
theorem insOf_one {op : Int} {ws : List ByteArray} (h : ws.length = 1) : insOf op ws = ⟨op, 0, ⟨#[]⟩, ⟨#[]⟩⟩ := by
 match ws, h with
 | [a], _ => rfl
theorem insOf_two {op : Int} {ws : List ByteArray} {u : ByteArray} (h : ws.length = 2) (hu : ws[1]? = some u) : insOf op ws = ⟨op, if (readNum u).2 then (readNum u).1 else 0, if (readNum u).2 then ⟨#[]⟩ else u, ⟨#[]⟩⟩ := by
 match ws, h with
 | [a, b], _ => cases hu; rfl
theorem insOf_more {op : Int} {ws : List ByteArray} {u x : ByteArray} (h : 3 ≤ ws.length) (hu : ws[1]? = some u) (hx : ws[2]? = some x) : insOf op ws = ⟨op, if (readNum u).2 then (readNum u).1 else 0, if (readNum u).2 then ⟨#[]⟩ else u, x⟩ := by
 match ws, h with
 | a :: b :: c :: r, _ => cases hu; cases hx; unfold insOf; simp


theorem S_InsReadL (s : ByteArray) (w : World) (hs : s.size ≤ 2000000) :
  Calls Tryz.prog 112 #[.string s] w fun e w' => e = .returned (insT (insRead s)) ∧ Below w.heap.size w w' := by
 refine qab fun R HR => ?_
 go_enter Tryz.func112, Tryz.ntmps112
 go_wp2_with fail
 refine (S_l1WordsL s _ hs).mono ?_
 rintro _ w1 ⟨v, rfl, ht, h1⟩
 obtain ⟨g, cap, rfl, hg, hlc, hcm, hcell⟩ := str_cells ht (words_pos s)
 have hsz : ∀ x ∈ words s, x.size ≤ 2000000 := fun x hx => Nat.le_trans (words_size hx) hs
 obtain ⟨ws, hws⟩ : ∃ ws, ws = words s := ⟨_, rfl⟩
 have WS := qhd hws
 have hB : Below w.heap.size w w1 := bbel
 have hpos : 0 < ws.length := by rw [hws]; exact words_pos s
 rw [← hws] at hlc hcell hsz ⊢
 clear hws ht
 obtain ⟨w0, hw0⟩ : ∃ x, ws[0]? = some x := ⟨_, List.getElem?_eq_getElem hpos⟩
 have C0 := hcell 0 w0 hw0
 have D0 : Hid ((words s).getD 0 ⟨#[]⟩ = w0) := qhd (by rw [← WS.out, List.getD_eq_getElem?_getD, hw0]; rfl)
 have HCE := qhd hcell
 have hgs := block_lt_of_cell C0
 have HSZ := qhd hsz
 have h1s := hB.size
 have F1 : Hid (Four w1 w.heap.size (.int .i64 0) (.int .i64 0) (.string ⟨#[]⟩) (.string ⟨#[]⟩)) := qhd ((Four.new w _ _ _ _ 91).keep h1)
 clear hcell hsz hw0
 go_wp2_with fail
 go_loopw [5] (fun ov wr => ∃ k : Nat, 1 ≤ k ∧ k ≤ 16 ∧ ov = .int .i64 (k : Int) ∧ insRead s = insGo s (16 - k) k ∧ Below w1.heap.size w1 wr) (fun ov _ => 17 - (intOf ov).toNat)
 case atStart => exact ⟨1, by omega, by omega, rfl, rfl, bbel⟩
 case round =>
  obtain ⟨k, hk1, hk16, rfl, hgo, hb⟩ := hrel
  have GO := qhd hgo
  have hbs := hb.size
  have C1 := qad hb C0
  have hE := hB.trans (hb.mono hB.size)
  have F2 := qhd (F1.out.keep hb)
  obtain ⟨hlt0, z0, z1, z2, z3, f0, f1, f2, f3⟩ := F2.out
  clear hgo
  by_cases hk : k = 16
  ·subst hk
   have RV : Hid (insRead s = (nilIns, false)) := qhd (by rw [GO.out]; rfl)
   clear GO
   go_wp2
   all_goals
    refine bodyPost_ret (v := ?_) ?hrun rfl ?_
    case hrun => (simp only [results, Tryz.results112]; go_simp; first | done | exact rfl)
    exact HR.out _ _ ⟨by first | (rw [RV.out]; done) | (rw [RV.out]; rfl), bbel⟩
  have hk15 : k ≤ 15 := by omega
  have SL : ∀ y : In wr, Calls Tryz.prog 91 #[.int .i64 (k : Int)] y.x fun e w' => e = .returned (.string (tx (opText (k : Int)))) ∧ Below y.x.heap.size y.x w' := fun y => S_l2Ins k y.x hk15
  have CY := In.cell C1
  have GO1 : Hid (insRead s = if isW w0 (opText (k : Int)) then insTry (k : Int) s else insGo s (16 - (k + 1)) (k + 1)) := qhd (by
   rw [GO.out, show 16 - k = (16 - (k + 1)) + 1 by omega, insGo, D0.out])
  clear GO
  by_cases hq : (tx (opText (k : Int))).toList = w0.toList
  ·have RT : Hid (insRead s = insTry (k : Int) s) := qhd (by
    rw [GO1.out, if_pos (isW_iff.2 (by
     apply ByteArray.ext
     rw [ByteArray.toList_eq, ByteArray.toList_eq] at hq
     exact (Array.ext' hq).symm))])
   clear GO1
   go_wp2_with fail
   refine qaj (by kernel_rfl) (by kernel_rfl) ?_
   repeat (go_big_quiet_step (first | (go_at_call 91; exact Calls.ins (SL _))))
   refine wpQuiet_nil ?_
   rintro wZ ⟨⟨wE, hwE⟩, hq⟩
   obtain rfl : wE = wZ := hq.symm
   clear hq
   have hwEs := hwE.size
   (try dsimp only)
   have hEE : Below w.heap.size w wE := hE.trans (hwE.mono hE.size)
   have hb1 : Below w1.heap.size w1 wE := hb.trans (hwE.mono hbs)
   have FE := qhd (F2.out.keep hwE)
   clear z0 z1 z2 z3 f0 f1 f2 f3 C1 CY SL hq C0
   obtain ⟨hltE, y0, y1, y2, y3, m0, m1, m2, m3⟩ := FE.out
   rcases (show ws.length = 1 ∨ ws.length = 2 ∨ 3 ≤ ws.length by omega) with hn | hn | hn
   ·have hg1 : decide ((1 : Int) < (ws.length : Int)) = false := by rw [decide_eq_false_iff_not]; omega
    have hg2 : decide ((2 : Int) < (ws.length : Int)) = false := by rw [decide_eq_false_iff_not]; omega
    have CT : ∀ W, Calls Tryz.prog 71 #[.agg #[.int .i64 (k : Int), .int .i64 0, .string ⟨#[]⟩, .string ⟨#[]⟩]] W fun e w' => e = .returned (.string (tx (insTxt (k : Int) 0 ⟨#[]⟩ ⟨#[]⟩))) ∧ Below W.heap.size W w' := fun W => S_InsText _ _ _ _ W (Nat.zero_le _) (Nat.zero_le _)
    have FIN := ins_fin (by rw [← WS.out]; exact insOf_one hn) RT.out
    clear hn
    rcases FIN with ⟨hl, RV⟩ | ⟨hl, hT, RV⟩ | ⟨hl, hT, RV⟩
    ·go_wp2
     (all_goals
      refine bodyPost_ret (v := ?_) ?hrun rfl ?_
      case hrun => (simp only [results, Tryz.results112]; go_simp; first | done | exact rfl)
      exact HR.out _ _ ⟨by first | (rw [RV.out]; done) | (rw [RV.out]; rfl), bbel⟩)
    ·go_wp2_with (go_at_call 71; refine (CT _).mono ?_; rintro _ wt ⟨rfl, hct⟩; have hcts := hct.size; (try simp only [World.size_alloc, World.size_setCell] at hcts); have Y4 : Four wt w.heap.size (.int .i64 0) (.int .i64 0) (.string ⟨#[]⟩) (.string ⟨#[]⟩) := (by refine Four.keep ?_ hct; refine ⟨?_, ?_, ?_, ?_, ?_, ?_, ?_, ?_, ?_⟩; all_goals first | (go_simp; done) | (first | (go_size; done) | (simp; done) | (simp; omega))); have E4 : Four wt wE.heap.size (.int .i64 (k : Int)) (.int .i64 (0)) (.string (⟨#[]⟩)) (.string (⟨#[]⟩)) := (by refine Four.keep ?_ hct; refine ⟨?_, ?_, ?_, ?_, ?_, ?_, ?_, ?_, ?_⟩; all_goals first | (go_simp; done) | (first | (go_size; done) | (simp; done) | (simp; omega))); have hEt : Below w.heap.size w wt := (bbel); clear y0 y1 y2 y3 m0 m1 m2 m3; obtain ⟨_, y0, y1, y2, y3, m0, m1, m2, m3⟩ := Y4; obtain ⟨_, e0, e1, e2, e3, n0, n1, n2, n3⟩ := E4)
     (all_goals
      refine bodyPost_ret (v := ?_) ?hrun rfl ?_
      case hrun => (simp only [results, Tryz.results112]; go_simp; first | done | exact rfl)
      exact HR.out _ _ ⟨by first | (rw [RV.out]; done) | (rw [RV.out]; rfl), bbel⟩)
    ·go_wp2_with (go_at_call 71; refine (CT _).mono ?_; rintro _ wt ⟨rfl, hct⟩; have hcts := hct.size; (try simp only [World.size_alloc, World.size_setCell] at hcts); have Y4 : Four wt w.heap.size (.int .i64 0) (.int .i64 0) (.string ⟨#[]⟩) (.string ⟨#[]⟩) := (by refine Four.keep ?_ hct; refine ⟨?_, ?_, ?_, ?_, ?_, ?_, ?_, ?_, ?_⟩; all_goals first | (go_simp; done) | (first | (go_size; done) | (simp; done) | (simp; omega))); have E4 : Four wt wE.heap.size (.int .i64 (k : Int)) (.int .i64 (0)) (.string (⟨#[]⟩)) (.string (⟨#[]⟩)) := (by refine Four.keep ?_ hct; refine ⟨?_, ?_, ?_, ?_, ?_, ?_, ?_, ?_, ?_⟩; all_goals first | (go_simp; done) | (first | (go_size; done) | (simp; done) | (simp; omega))); have hEt : Below w.heap.size w wt := (bbel); clear y0 y1 y2 y3 m0 m1 m2 m3; obtain ⟨_, y0, y1, y2, y3, m0, m1, m2, m3⟩ := Y4; obtain ⟨_, e0, e1, e2, e3, n0, n1, n2, n3⟩ := E4)
     (all_goals
      refine bodyPost_ret (v := ?_) ?hrun rfl ?_
      case hrun => (simp only [results, Tryz.results112]; go_simp; first | done | exact rfl)
      exact HR.out _ _ ⟨by first | (rw [RV.out]; done) | (rw [RV.out]; rfl), bbel⟩)
   ·obtain ⟨u1, hu1⟩ : ∃ x, ws[1]? = some x := ⟨_, List.getElem?_eq_getElem (by omega)⟩
    have x1 := qad hb1 (HCE.out 1 u1 hu1)
    have su1 := HSZ.out u1 (List.mem_of_getElem? hu1)
    have hgE : g < wE.heap.size := block_lt_of_cell x1
    have hg1 : decide ((1 : Int) < (ws.length : Int)) = true := by rw [decide_eq_true_eq]; omega
    have hg2 : decide ((2 : Int) < (ws.length : Int)) = false := by rw [decide_eq_false_iff_not]; omega
    have hl1 : 1 < ws.length := by omega
    obtain ⟨q, hnum⟩ : ∃ q, (readNum u1).1 = q := ⟨_, rfl⟩
    cases hr : (readNum u1).2
    ·have CR : ∀ W, Calls Tryz.prog 108 #[.string u1] W fun e w' => e = .returned (.tuple #[.int .i64 q, .bool false]) ∧ Below W.heap.size W w' := fun W => (S_l1ReadL u1 W su1).mono fun e w' h => ⟨h.1.trans (by unfold numT; rw [hr, hnum]), h.2⟩
     have CT : ∀ W, Calls Tryz.prog 71 #[.agg #[.int .i64 (k : Int), .int .i64 (0), .string (u1), .string (⟨#[]⟩)]] W fun e w' => e = .returned (.string (tx (insTxt (k : Int) (0) (u1) (⟨#[]⟩)))) ∧ Below W.heap.size W w' := fun W => S_InsText _ _ _ _ W (by unfold maxLen; first | (exact Nat.zero_le _) | omega) (by unfold maxLen; first | (exact Nat.zero_le _) | omega)
     have FIN := ins_fin (op := (k : Int)) (A := 0) (N := u1) (M := ⟨#[]⟩) (by rw [← WS.out]; exact (by rw [insOf_two hn hu1, hr]; rfl)) RT.out
     clear hn hu1 hr hnum
     (try clear hu2)
     rcases FIN with ⟨hl, RV⟩ | ⟨hl, hT, RV⟩ | ⟨hl, hT, RV⟩
     ·go_wp2_with (go_at_call 108; refine (CR _).mono ?_; rintro _ wl ⟨rfl, hcl⟩; have hcls := hcl.size; (try simp only [World.size_alloc, World.size_setCell] at hcls); have Y4 : Four wl w.heap.size (.int .i64 0) (.int .i64 0) (.string ⟨#[]⟩) (.string ⟨#[]⟩) := (by refine Four.keep ?_ hcl; refine ⟨?_, ?_, ?_, ?_, ?_, ?_, ?_, ?_, ?_⟩; all_goals first | (go_simp; done) | (first | (go_size; done) | (simp; done) | (simp; omega))); have E4 : Four wl wE.heap.size (.int .i64 (k : Int)) (.int .i64 0) (.string ⟨#[]⟩) (.string ⟨#[]⟩) := (by refine Four.keep ?_ hcl; refine ⟨?_, ?_, ?_, ?_, ?_, ?_, ?_, ?_, ?_⟩; all_goals first | (go_simp; done) | (first | (go_size; done) | (simp; done) | (simp; omega))); have hEl : Below w.heap.size w wl := (bbel); replace x1 : wl.cell? ⟨g, 1, none⟩ = some (.string u1) := qad hcl (by go_simp); clear y0 y1 y2 y3 m0 m1 m2 m3; obtain ⟨_, y0, y1, y2, y3, m0, m1, m2, m3⟩ := Y4; obtain ⟨_, e0, e1, e2, e3, n0, n1, n2, n3⟩ := E4)
      (all_goals
       refine bodyPost_ret (v := ?_) ?hrun rfl ?_
       case hrun => (simp only [results, Tryz.results112]; go_simp; first | done | exact rfl)
       exact HR.out _ _ ⟨by first | (rw [RV.out]; done) | (rw [RV.out]; rfl), bbel⟩)
     ·go_wp2_with (first | (go_at_call 108; refine (CR _).mono ?_; rintro _ wl ⟨rfl, hcl⟩; have hcls := hcl.size; (try simp only [World.size_alloc, World.size_setCell] at hcls); have Y4 : Four wl w.heap.size (.int .i64 0) (.int .i64 0) (.string ⟨#[]⟩) (.string ⟨#[]⟩) := (by refine Four.keep ?_ hcl; refine ⟨?_, ?_, ?_, ?_, ?_, ?_, ?_, ?_, ?_⟩; all_goals first | (go_simp; done) | (first | (go_size; done) | (simp; done) | (simp; omega))); have E4 : Four wl wE.heap.size (.int .i64 (k : Int)) (.int .i64 0) (.string ⟨#[]⟩) (.string ⟨#[]⟩) := (by refine Four.keep ?_ hcl; refine ⟨?_, ?_, ?_, ?_, ?_, ?_, ?_, ?_, ?_⟩; all_goals first | (go_simp; done) | (first | (go_size; done) | (simp; done) | (simp; omega))); have hEl : Below w.heap.size w wl := (bbel); replace x1 : wl.cell? ⟨g, 1, none⟩ = some (.string u1) := qad hcl (by go_simp); clear y0 y1 y2 y3 m0 m1 m2 m3; obtain ⟨_, y0, y1, y2, y3, m0, m1, m2, m3⟩ := Y4; obtain ⟨_, e0, e1, e2, e3, n0, n1, n2, n3⟩ := E4) | (go_at_call 71; refine (CT _).mono ?_; rintro _ wt ⟨rfl, hct⟩; have hcts := hct.size; (try simp only [World.size_alloc, World.size_setCell] at hcts); have Y4 : Four wt w.heap.size (.int .i64 0) (.int .i64 0) (.string ⟨#[]⟩) (.string ⟨#[]⟩) := (by refine Four.keep ?_ hct; refine ⟨?_, ?_, ?_, ?_, ?_, ?_, ?_, ?_, ?_⟩; all_goals first | (go_simp; done) | (first | (go_size; done) | (simp; done) | (simp; omega))); have E4 : Four wt wE.heap.size (.int .i64 (k : Int)) (.int .i64 (0)) (.string (u1)) (.string (⟨#[]⟩)) := (by refine Four.keep ?_ hct; refine ⟨?_, ?_, ?_, ?_, ?_, ?_, ?_, ?_, ?_⟩; all_goals first | (go_simp; done) | (first | (go_size; done) | (simp; done) | (simp; omega))); have hEt : Below w.heap.size w wt := (bbel); clear y0 y1 y2 y3 m0 m1 m2 m3; obtain ⟨_, y0, y1, y2, y3, m0, m1, m2, m3⟩ := Y4; obtain ⟨_, e0, e1, e2, e3, n0, n1, n2, n3⟩ := E4))
      (all_goals
       refine bodyPost_ret (v := ?_) ?hrun rfl ?_
       case hrun => (simp only [results, Tryz.results112]; go_simp; first | done | exact rfl)
       exact HR.out _ _ ⟨by first | (rw [RV.out]; done) | (rw [RV.out]; rfl), bbel⟩)
     ·go_wp2_with (first | (go_at_call 108; refine (CR _).mono ?_; rintro _ wl ⟨rfl, hcl⟩; have hcls := hcl.size; (try simp only [World.size_alloc, World.size_setCell] at hcls); have Y4 : Four wl w.heap.size (.int .i64 0) (.int .i64 0) (.string ⟨#[]⟩) (.string ⟨#[]⟩) := (by refine Four.keep ?_ hcl; refine ⟨?_, ?_, ?_, ?_, ?_, ?_, ?_, ?_, ?_⟩; all_goals first | (go_simp; done) | (first | (go_size; done) | (simp; done) | (simp; omega))); have E4 : Four wl wE.heap.size (.int .i64 (k : Int)) (.int .i64 0) (.string ⟨#[]⟩) (.string ⟨#[]⟩) := (by refine Four.keep ?_ hcl; refine ⟨?_, ?_, ?_, ?_, ?_, ?_, ?_, ?_, ?_⟩; all_goals first | (go_simp; done) | (first | (go_size; done) | (simp; done) | (simp; omega))); have hEl : Below w.heap.size w wl := (bbel); replace x1 : wl.cell? ⟨g, 1, none⟩ = some (.string u1) := qad hcl (by go_simp); clear y0 y1 y2 y3 m0 m1 m2 m3; obtain ⟨_, y0, y1, y2, y3, m0, m1, m2, m3⟩ := Y4; obtain ⟨_, e0, e1, e2, e3, n0, n1, n2, n3⟩ := E4) | (go_at_call 71; refine (CT _).mono ?_; rintro _ wt ⟨rfl, hct⟩; have hcts := hct.size; (try simp only [World.size_alloc, World.size_setCell] at hcts); have Y4 : Four wt w.heap.size (.int .i64 0) (.int .i64 0) (.string ⟨#[]⟩) (.string ⟨#[]⟩) := (by refine Four.keep ?_ hct; refine ⟨?_, ?_, ?_, ?_, ?_, ?_, ?_, ?_, ?_⟩; all_goals first | (go_simp; done) | (first | (go_size; done) | (simp; done) | (simp; omega))); have E4 : Four wt wE.heap.size (.int .i64 (k : Int)) (.int .i64 (0)) (.string (u1)) (.string (⟨#[]⟩)) := (by refine Four.keep ?_ hct; refine ⟨?_, ?_, ?_, ?_, ?_, ?_, ?_, ?_, ?_⟩; all_goals first | (go_simp; done) | (first | (go_size; done) | (simp; done) | (simp; omega))); have hEt : Below w.heap.size w wt := (bbel); clear y0 y1 y2 y3 m0 m1 m2 m3; obtain ⟨_, y0, y1, y2, y3, m0, m1, m2, m3⟩ := Y4; obtain ⟨_, e0, e1, e2, e3, n0, n1, n2, n3⟩ := E4))
      (all_goals
       refine bodyPost_ret (v := ?_) ?hrun rfl ?_
       case hrun => (simp only [results, Tryz.results112]; go_simp; first | done | exact rfl)
       exact HR.out _ _ ⟨by first | (rw [RV.out]; done) | (rw [RV.out]; rfl), bbel⟩)
    ·have CR : ∀ W, Calls Tryz.prog 108 #[.string u1] W fun e w' => e = .returned (.tuple #[.int .i64 q, .bool true]) ∧ Below W.heap.size W w' := fun W => (S_l1ReadL u1 W su1).mono fun e w' h => ⟨h.1.trans (by unfold numT; rw [hr, hnum]), h.2⟩
     have CT : ∀ W, Calls Tryz.prog 71 #[.agg #[.int .i64 (k : Int), .int .i64 (q), .string (⟨#[]⟩), .string (⟨#[]⟩)]] W fun e w' => e = .returned (.string (tx (insTxt (k : Int) (q) (⟨#[]⟩) (⟨#[]⟩)))) ∧ Below W.heap.size W w' := fun W => S_InsText _ _ _ _ W (by unfold maxLen; first | (exact Nat.zero_le _) | omega) (by unfold maxLen; first | (exact Nat.zero_le _) | omega)
     have FIN := ins_fin (op := (k : Int)) (A := q) (N := ⟨#[]⟩) (M := ⟨#[]⟩) (by rw [← WS.out]; exact (by rw [insOf_two hn hu1, hr, hnum]; rfl)) RT.out
     clear hn hu1 hr hnum
     (try clear hu2)
     rcases FIN with ⟨hl, RV⟩ | ⟨hl, hT, RV⟩ | ⟨hl, hT, RV⟩
     ·go_wp2_with (go_at_call 108; refine (CR _).mono ?_; rintro _ wl ⟨rfl, hcl⟩; have hcls := hcl.size; (try simp only [World.size_alloc, World.size_setCell] at hcls); have Y4 : Four wl w.heap.size (.int .i64 0) (.int .i64 0) (.string ⟨#[]⟩) (.string ⟨#[]⟩) := (by refine Four.keep ?_ hcl; refine ⟨?_, ?_, ?_, ?_, ?_, ?_, ?_, ?_, ?_⟩; all_goals first | (go_simp; done) | (first | (go_size; done) | (simp; done) | (simp; omega))); have E4 : Four wl wE.heap.size (.int .i64 (k : Int)) (.int .i64 0) (.string ⟨#[]⟩) (.string ⟨#[]⟩) := (by refine Four.keep ?_ hcl; refine ⟨?_, ?_, ?_, ?_, ?_, ?_, ?_, ?_, ?_⟩; all_goals first | (go_simp; done) | (first | (go_size; done) | (simp; done) | (simp; omega))); have hEl : Below w.heap.size w wl := (bbel); replace x1 : wl.cell? ⟨g, 1, none⟩ = some (.string u1) := qad hcl (by go_simp); clear y0 y1 y2 y3 m0 m1 m2 m3; obtain ⟨_, y0, y1, y2, y3, m0, m1, m2, m3⟩ := Y4; obtain ⟨_, e0, e1, e2, e3, n0, n1, n2, n3⟩ := E4)
      (all_goals
       refine bodyPost_ret (v := ?_) ?hrun rfl ?_
       case hrun => (simp only [results, Tryz.results112]; go_simp; first | done | exact rfl)
       exact HR.out _ _ ⟨by first | (rw [RV.out]; done) | (rw [RV.out]; rfl), bbel⟩)
     ·go_wp2_with (first | (go_at_call 108; refine (CR _).mono ?_; rintro _ wl ⟨rfl, hcl⟩; have hcls := hcl.size; (try simp only [World.size_alloc, World.size_setCell] at hcls); have Y4 : Four wl w.heap.size (.int .i64 0) (.int .i64 0) (.string ⟨#[]⟩) (.string ⟨#[]⟩) := (by refine Four.keep ?_ hcl; refine ⟨?_, ?_, ?_, ?_, ?_, ?_, ?_, ?_, ?_⟩; all_goals first | (go_simp; done) | (first | (go_size; done) | (simp; done) | (simp; omega))); have E4 : Four wl wE.heap.size (.int .i64 (k : Int)) (.int .i64 0) (.string ⟨#[]⟩) (.string ⟨#[]⟩) := (by refine Four.keep ?_ hcl; refine ⟨?_, ?_, ?_, ?_, ?_, ?_, ?_, ?_, ?_⟩; all_goals first | (go_simp; done) | (first | (go_size; done) | (simp; done) | (simp; omega))); have hEl : Below w.heap.size w wl := (bbel); replace x1 : wl.cell? ⟨g, 1, none⟩ = some (.string u1) := qad hcl (by go_simp); clear y0 y1 y2 y3 m0 m1 m2 m3; obtain ⟨_, y0, y1, y2, y3, m0, m1, m2, m3⟩ := Y4; obtain ⟨_, e0, e1, e2, e3, n0, n1, n2, n3⟩ := E4) | (go_at_call 71; refine (CT _).mono ?_; rintro _ wt ⟨rfl, hct⟩; have hcts := hct.size; (try simp only [World.size_alloc, World.size_setCell] at hcts); have Y4 : Four wt w.heap.size (.int .i64 0) (.int .i64 0) (.string ⟨#[]⟩) (.string ⟨#[]⟩) := (by refine Four.keep ?_ hct; refine ⟨?_, ?_, ?_, ?_, ?_, ?_, ?_, ?_, ?_⟩; all_goals first | (go_simp; done) | (first | (go_size; done) | (simp; done) | (simp; omega))); have E4 : Four wt wE.heap.size (.int .i64 (k : Int)) (.int .i64 (q)) (.string (⟨#[]⟩)) (.string (⟨#[]⟩)) := (by refine Four.keep ?_ hct; refine ⟨?_, ?_, ?_, ?_, ?_, ?_, ?_, ?_, ?_⟩; all_goals first | (go_simp; done) | (first | (go_size; done) | (simp; done) | (simp; omega))); have hEt : Below w.heap.size w wt := (bbel); clear y0 y1 y2 y3 m0 m1 m2 m3; obtain ⟨_, y0, y1, y2, y3, m0, m1, m2, m3⟩ := Y4; obtain ⟨_, e0, e1, e2, e3, n0, n1, n2, n3⟩ := E4))
      (all_goals
       refine bodyPost_ret (v := ?_) ?hrun rfl ?_
       case hrun => (simp only [results, Tryz.results112]; go_simp; first | done | exact rfl)
       exact HR.out _ _ ⟨by first | (rw [RV.out]; done) | (rw [RV.out]; rfl), bbel⟩)
     ·go_wp2_with (first | (go_at_call 108; refine (CR _).mono ?_; rintro _ wl ⟨rfl, hcl⟩; have hcls := hcl.size; (try simp only [World.size_alloc, World.size_setCell] at hcls); have Y4 : Four wl w.heap.size (.int .i64 0) (.int .i64 0) (.string ⟨#[]⟩) (.string ⟨#[]⟩) := (by refine Four.keep ?_ hcl; refine ⟨?_, ?_, ?_, ?_, ?_, ?_, ?_, ?_, ?_⟩; all_goals first | (go_simp; done) | (first | (go_size; done) | (simp; done) | (simp; omega))); have E4 : Four wl wE.heap.size (.int .i64 (k : Int)) (.int .i64 0) (.string ⟨#[]⟩) (.string ⟨#[]⟩) := (by refine Four.keep ?_ hcl; refine ⟨?_, ?_, ?_, ?_, ?_, ?_, ?_, ?_, ?_⟩; all_goals first | (go_simp; done) | (first | (go_size; done) | (simp; done) | (simp; omega))); have hEl : Below w.heap.size w wl := (bbel); replace x1 : wl.cell? ⟨g, 1, none⟩ = some (.string u1) := qad hcl (by go_simp); clear y0 y1 y2 y3 m0 m1 m2 m3; obtain ⟨_, y0, y1, y2, y3, m0, m1, m2, m3⟩ := Y4; obtain ⟨_, e0, e1, e2, e3, n0, n1, n2, n3⟩ := E4) | (go_at_call 71; refine (CT _).mono ?_; rintro _ wt ⟨rfl, hct⟩; have hcts := hct.size; (try simp only [World.size_alloc, World.size_setCell] at hcts); have Y4 : Four wt w.heap.size (.int .i64 0) (.int .i64 0) (.string ⟨#[]⟩) (.string ⟨#[]⟩) := (by refine Four.keep ?_ hct; refine ⟨?_, ?_, ?_, ?_, ?_, ?_, ?_, ?_, ?_⟩; all_goals first | (go_simp; done) | (first | (go_size; done) | (simp; done) | (simp; omega))); have E4 : Four wt wE.heap.size (.int .i64 (k : Int)) (.int .i64 (q)) (.string (⟨#[]⟩)) (.string (⟨#[]⟩)) := (by refine Four.keep ?_ hct; refine ⟨?_, ?_, ?_, ?_, ?_, ?_, ?_, ?_, ?_⟩; all_goals first | (go_simp; done) | (first | (go_size; done) | (simp; done) | (simp; omega))); have hEt : Below w.heap.size w wt := (bbel); clear y0 y1 y2 y3 m0 m1 m2 m3; obtain ⟨_, y0, y1, y2, y3, m0, m1, m2, m3⟩ := Y4; obtain ⟨_, e0, e1, e2, e3, n0, n1, n2, n3⟩ := E4))
      (all_goals
       refine bodyPost_ret (v := ?_) ?hrun rfl ?_
       case hrun => (simp only [results, Tryz.results112]; go_simp; first | done | exact rfl)
       exact HR.out _ _ ⟨by first | (rw [RV.out]; done) | (rw [RV.out]; rfl), bbel⟩)
   ·obtain ⟨u1, hu1⟩ : ∃ x, ws[1]? = some x := ⟨_, List.getElem?_eq_getElem (by omega)⟩
    obtain ⟨u2, hu2⟩ : ∃ x, ws[2]? = some x := ⟨_, List.getElem?_eq_getElem (by omega)⟩
    have x1 := qad hb1 (HCE.out 1 u1 hu1)
    have x2 := qad hb1 (HCE.out 2 u2 hu2)
    have su1 := HSZ.out u1 (List.mem_of_getElem? hu1)
    have su2 := HSZ.out u2 (List.mem_of_getElem? hu2)
    have hgE : g < wE.heap.size := block_lt_of_cell x1
    have hg1 : decide ((1 : Int) < (ws.length : Int)) = true := by rw [decide_eq_true_eq]; omega
    have hg2 : decide ((2 : Int) < (ws.length : Int)) = true := by rw [decide_eq_true_eq]; omega
    have hl1 : 1 < ws.length := by omega
    have hl2 : 2 < ws.length := by omega
    obtain ⟨q, hnum⟩ : ∃ q, (readNum u1).1 = q := ⟨_, rfl⟩
    cases hr : (readNum u1).2
    ·have CR : ∀ W, Calls Tryz.prog 108 #[.string u1] W fun e w' => e = .returned (.tuple #[.int .i64 q, .bool false]) ∧ Below W.heap.size W w' := fun W => (S_l1ReadL u1 W su1).mono fun e w' h => ⟨h.1.trans (by unfold numT; rw [hr, hnum]), h.2⟩
     have CT : ∀ W, Calls Tryz.prog 71 #[.agg #[.int .i64 (k : Int), .int .i64 (0), .string (u1), .string (u2)]] W fun e w' => e = .returned (.string (tx (insTxt (k : Int) (0) (u1) (u2)))) ∧ Below W.heap.size W w' := fun W => S_InsText _ _ _ _ W (by unfold maxLen; first | (exact Nat.zero_le _) | omega) (by unfold maxLen; first | (exact Nat.zero_le _) | omega)
     have FIN := ins_fin (op := (k : Int)) (A := 0) (N := u1) (M := u2) (by rw [← WS.out]; exact (by rw [insOf_more hn hu1 hu2, hr]; rfl)) RT.out
     clear hn hu1 hr hnum
     (try clear hu2)
     rcases FIN with ⟨hl, RV⟩ | ⟨hl, hT, RV⟩ | ⟨hl, hT, RV⟩
     ·go_wp2_with (go_at_call 108; refine (CR _).mono ?_; rintro _ wl ⟨rfl, hcl⟩; have hcls := hcl.size; (try simp only [World.size_alloc, World.size_setCell] at hcls); have Y4 : Four wl w.heap.size (.int .i64 0) (.int .i64 0) (.string ⟨#[]⟩) (.string ⟨#[]⟩) := (by refine Four.keep ?_ hcl; refine ⟨?_, ?_, ?_, ?_, ?_, ?_, ?_, ?_, ?_⟩; all_goals first | (go_simp; done) | (first | (go_size; done) | (simp; done) | (simp; omega))); have E4 : Four wl wE.heap.size (.int .i64 (k : Int)) (.int .i64 0) (.string ⟨#[]⟩) (.string ⟨#[]⟩) := (by refine Four.keep ?_ hcl; refine ⟨?_, ?_, ?_, ?_, ?_, ?_, ?_, ?_, ?_⟩; all_goals first | (go_simp; done) | (first | (go_size; done) | (simp; done) | (simp; omega))); have hEl : Below w.heap.size w wl := (bbel); replace x1 : wl.cell? ⟨g, 1, none⟩ = some (.string u1) := qad hcl (by go_simp); (try (replace x2 : wl.cell? ⟨g, 2, none⟩ = some (.string u2) := qad hcl (by go_simp))); clear y0 y1 y2 y3 m0 m1 m2 m3; obtain ⟨_, y0, y1, y2, y3, m0, m1, m2, m3⟩ := Y4; obtain ⟨_, e0, e1, e2, e3, n0, n1, n2, n3⟩ := E4)
      (all_goals
       refine bodyPost_ret (v := ?_) ?hrun rfl ?_
       case hrun => (simp only [results, Tryz.results112]; go_simp; first | done | exact rfl)
       exact HR.out _ _ ⟨by first | (rw [RV.out]; done) | (rw [RV.out]; rfl), bbel⟩)
     ·go_wp2_with (first | (go_at_call 108; refine (CR _).mono ?_; rintro _ wl ⟨rfl, hcl⟩; have hcls := hcl.size; (try simp only [World.size_alloc, World.size_setCell] at hcls); have Y4 : Four wl w.heap.size (.int .i64 0) (.int .i64 0) (.string ⟨#[]⟩) (.string ⟨#[]⟩) := (by refine Four.keep ?_ hcl; refine ⟨?_, ?_, ?_, ?_, ?_, ?_, ?_, ?_, ?_⟩; all_goals first | (go_simp; done) | (first | (go_size; done) | (simp; done) | (simp; omega))); have E4 : Four wl wE.heap.size (.int .i64 (k : Int)) (.int .i64 0) (.string ⟨#[]⟩) (.string ⟨#[]⟩) := (by refine Four.keep ?_ hcl; refine ⟨?_, ?_, ?_, ?_, ?_, ?_, ?_, ?_, ?_⟩; all_goals first | (go_simp; done) | (first | (go_size; done) | (simp; done) | (simp; omega))); have hEl : Below w.heap.size w wl := (bbel); replace x1 : wl.cell? ⟨g, 1, none⟩ = some (.string u1) := qad hcl (by go_simp); (try (replace x2 : wl.cell? ⟨g, 2, none⟩ = some (.string u2) := qad hcl (by go_simp))); clear y0 y1 y2 y3 m0 m1 m2 m3; obtain ⟨_, y0, y1, y2, y3, m0, m1, m2, m3⟩ := Y4; obtain ⟨_, e0, e1, e2, e3, n0, n1, n2, n3⟩ := E4) | (go_at_call 71; refine (CT _).mono ?_; rintro _ wt ⟨rfl, hct⟩; have hcts := hct.size; (try simp only [World.size_alloc, World.size_setCell] at hcts); have Y4 : Four wt w.heap.size (.int .i64 0) (.int .i64 0) (.string ⟨#[]⟩) (.string ⟨#[]⟩) := (by refine Four.keep ?_ hct; refine ⟨?_, ?_, ?_, ?_, ?_, ?_, ?_, ?_, ?_⟩; all_goals first | (go_simp; done) | (first | (go_size; done) | (simp; done) | (simp; omega))); have E4 : Four wt wE.heap.size (.int .i64 (k : Int)) (.int .i64 (0)) (.string (u1)) (.string (u2)) := (by refine Four.keep ?_ hct; refine ⟨?_, ?_, ?_, ?_, ?_, ?_, ?_, ?_, ?_⟩; all_goals first | (go_simp; done) | (first | (go_size; done) | (simp; done) | (simp; omega))); have hEt : Below w.heap.size w wt := (bbel); clear y0 y1 y2 y3 m0 m1 m2 m3; obtain ⟨_, y0, y1, y2, y3, m0, m1, m2, m3⟩ := Y4; obtain ⟨_, e0, e1, e2, e3, n0, n1, n2, n3⟩ := E4))
      (all_goals
       refine bodyPost_ret (v := ?_) ?hrun rfl ?_
       case hrun => (simp only [results, Tryz.results112]; go_simp; first | done | exact rfl)
       exact HR.out _ _ ⟨by first | (rw [RV.out]; done) | (rw [RV.out]; rfl), bbel⟩)
     ·go_wp2_with (first | (go_at_call 108; refine (CR _).mono ?_; rintro _ wl ⟨rfl, hcl⟩; have hcls := hcl.size; (try simp only [World.size_alloc, World.size_setCell] at hcls); have Y4 : Four wl w.heap.size (.int .i64 0) (.int .i64 0) (.string ⟨#[]⟩) (.string ⟨#[]⟩) := (by refine Four.keep ?_ hcl; refine ⟨?_, ?_, ?_, ?_, ?_, ?_, ?_, ?_, ?_⟩; all_goals first | (go_simp; done) | (first | (go_size; done) | (simp; done) | (simp; omega))); have E4 : Four wl wE.heap.size (.int .i64 (k : Int)) (.int .i64 0) (.string ⟨#[]⟩) (.string ⟨#[]⟩) := (by refine Four.keep ?_ hcl; refine ⟨?_, ?_, ?_, ?_, ?_, ?_, ?_, ?_, ?_⟩; all_goals first | (go_simp; done) | (first | (go_size; done) | (simp; done) | (simp; omega))); have hEl : Below w.heap.size w wl := (bbel); replace x1 : wl.cell? ⟨g, 1, none⟩ = some (.string u1) := qad hcl (by go_simp); (try (replace x2 : wl.cell? ⟨g, 2, none⟩ = some (.string u2) := qad hcl (by go_simp))); clear y0 y1 y2 y3 m0 m1 m2 m3; obtain ⟨_, y0, y1, y2, y3, m0, m1, m2, m3⟩ := Y4; obtain ⟨_, e0, e1, e2, e3, n0, n1, n2, n3⟩ := E4) | (go_at_call 71; refine (CT _).mono ?_; rintro _ wt ⟨rfl, hct⟩; have hcts := hct.size; (try simp only [World.size_alloc, World.size_setCell] at hcts); have Y4 : Four wt w.heap.size (.int .i64 0) (.int .i64 0) (.string ⟨#[]⟩) (.string ⟨#[]⟩) := (by refine Four.keep ?_ hct; refine ⟨?_, ?_, ?_, ?_, ?_, ?_, ?_, ?_, ?_⟩; all_goals first | (go_simp; done) | (first | (go_size; done) | (simp; done) | (simp; omega))); have E4 : Four wt wE.heap.size (.int .i64 (k : Int)) (.int .i64 (0)) (.string (u1)) (.string (u2)) := (by refine Four.keep ?_ hct; refine ⟨?_, ?_, ?_, ?_, ?_, ?_, ?_, ?_, ?_⟩; all_goals first | (go_simp; done) | (first | (go_size; done) | (simp; done) | (simp; omega))); have hEt : Below w.heap.size w wt := (bbel); clear y0 y1 y2 y3 m0 m1 m2 m3; obtain ⟨_, y0, y1, y2, y3, m0, m1, m2, m3⟩ := Y4; obtain ⟨_, e0, e1, e2, e3, n0, n1, n2, n3⟩ := E4))
      (all_goals
       refine bodyPost_ret (v := ?_) ?hrun rfl ?_
       case hrun => (simp only [results, Tryz.results112]; go_simp; first | done | exact rfl)
       exact HR.out _ _ ⟨by first | (rw [RV.out]; done) | (rw [RV.out]; rfl), bbel⟩)
    ·have CR : ∀ W, Calls Tryz.prog 108 #[.string u1] W fun e w' => e = .returned (.tuple #[.int .i64 q, .bool true]) ∧ Below W.heap.size W w' := fun W => (S_l1ReadL u1 W su1).mono fun e w' h => ⟨h.1.trans (by unfold numT; rw [hr, hnum]), h.2⟩
     have CT : ∀ W, Calls Tryz.prog 71 #[.agg #[.int .i64 (k : Int), .int .i64 (q), .string (⟨#[]⟩), .string (u2)]] W fun e w' => e = .returned (.string (tx (insTxt (k : Int) (q) (⟨#[]⟩) (u2)))) ∧ Below W.heap.size W w' := fun W => S_InsText _ _ _ _ W (by unfold maxLen; first | (exact Nat.zero_le _) | omega) (by unfold maxLen; first | (exact Nat.zero_le _) | omega)
     have FIN := ins_fin (op := (k : Int)) (A := q) (N := ⟨#[]⟩) (M := u2) (by rw [← WS.out]; exact (by rw [insOf_more hn hu1 hu2, hr, hnum]; rfl)) RT.out
     clear hn hu1 hr hnum
     (try clear hu2)
     rcases FIN with ⟨hl, RV⟩ | ⟨hl, hT, RV⟩ | ⟨hl, hT, RV⟩
     ·go_wp2_with (go_at_call 108; refine (CR _).mono ?_; rintro _ wl ⟨rfl, hcl⟩; have hcls := hcl.size; (try simp only [World.size_alloc, World.size_setCell] at hcls); have Y4 : Four wl w.heap.size (.int .i64 0) (.int .i64 0) (.string ⟨#[]⟩) (.string ⟨#[]⟩) := (by refine Four.keep ?_ hcl; refine ⟨?_, ?_, ?_, ?_, ?_, ?_, ?_, ?_, ?_⟩; all_goals first | (go_simp; done) | (first | (go_size; done) | (simp; done) | (simp; omega))); have E4 : Four wl wE.heap.size (.int .i64 (k : Int)) (.int .i64 0) (.string ⟨#[]⟩) (.string ⟨#[]⟩) := (by refine Four.keep ?_ hcl; refine ⟨?_, ?_, ?_, ?_, ?_, ?_, ?_, ?_, ?_⟩; all_goals first | (go_simp; done) | (first | (go_size; done) | (simp; done) | (simp; omega))); have hEl : Below w.heap.size w wl := (bbel); replace x1 : wl.cell? ⟨g, 1, none⟩ = some (.string u1) := qad hcl (by go_simp); (try (replace x2 : wl.cell? ⟨g, 2, none⟩ = some (.string u2) := qad hcl (by go_simp))); clear y0 y1 y2 y3 m0 m1 m2 m3; obtain ⟨_, y0, y1, y2, y3, m0, m1, m2, m3⟩ := Y4; obtain ⟨_, e0, e1, e2, e3, n0, n1, n2, n3⟩ := E4)
      (all_goals
       refine bodyPost_ret (v := ?_) ?hrun rfl ?_
       case hrun => (simp only [results, Tryz.results112]; go_simp; first | done | exact rfl)
       exact HR.out _ _ ⟨by first | (rw [RV.out]; done) | (rw [RV.out]; rfl), bbel⟩)
     ·go_wp2_with (first | (go_at_call 108; refine (CR _).mono ?_; rintro _ wl ⟨rfl, hcl⟩; have hcls := hcl.size; (try simp only [World.size_alloc, World.size_setCell] at hcls); have Y4 : Four wl w.heap.size (.int .i64 0) (.int .i64 0) (.string ⟨#[]⟩) (.string ⟨#[]⟩) := (by refine Four.keep ?_ hcl; refine ⟨?_, ?_, ?_, ?_, ?_, ?_, ?_, ?_, ?_⟩; all_goals first | (go_simp; done) | (first | (go_size; done) | (simp; done) | (simp; omega))); have E4 : Four wl wE.heap.size (.int .i64 (k : Int)) (.int .i64 0) (.string ⟨#[]⟩) (.string ⟨#[]⟩) := (by refine Four.keep ?_ hcl; refine ⟨?_, ?_, ?_, ?_, ?_, ?_, ?_, ?_, ?_⟩; all_goals first | (go_simp; done) | (first | (go_size; done) | (simp; done) | (simp; omega))); have hEl : Below w.heap.size w wl := (bbel); replace x1 : wl.cell? ⟨g, 1, none⟩ = some (.string u1) := qad hcl (by go_simp); (try (replace x2 : wl.cell? ⟨g, 2, none⟩ = some (.string u2) := qad hcl (by go_simp))); clear y0 y1 y2 y3 m0 m1 m2 m3; obtain ⟨_, y0, y1, y2, y3, m0, m1, m2, m3⟩ := Y4; obtain ⟨_, e0, e1, e2, e3, n0, n1, n2, n3⟩ := E4) | (go_at_call 71; refine (CT _).mono ?_; rintro _ wt ⟨rfl, hct⟩; have hcts := hct.size; (try simp only [World.size_alloc, World.size_setCell] at hcts); have Y4 : Four wt w.heap.size (.int .i64 0) (.int .i64 0) (.string ⟨#[]⟩) (.string ⟨#[]⟩) := (by refine Four.keep ?_ hct; refine ⟨?_, ?_, ?_, ?_, ?_, ?_, ?_, ?_, ?_⟩; all_goals first | (go_simp; done) | (first | (go_size; done) | (simp; done) | (simp; omega))); have E4 : Four wt wE.heap.size (.int .i64 (k : Int)) (.int .i64 (q)) (.string (⟨#[]⟩)) (.string (u2)) := (by refine Four.keep ?_ hct; refine ⟨?_, ?_, ?_, ?_, ?_, ?_, ?_, ?_, ?_⟩; all_goals first | (go_simp; done) | (first | (go_size; done) | (simp; done) | (simp; omega))); have hEt : Below w.heap.size w wt := (bbel); clear y0 y1 y2 y3 m0 m1 m2 m3; obtain ⟨_, y0, y1, y2, y3, m0, m1, m2, m3⟩ := Y4; obtain ⟨_, e0, e1, e2, e3, n0, n1, n2, n3⟩ := E4))
      (all_goals
       refine bodyPost_ret (v := ?_) ?hrun rfl ?_
       case hrun => (simp only [results, Tryz.results112]; go_simp; first | done | exact rfl)
       exact HR.out _ _ ⟨by first | (rw [RV.out]; done) | (rw [RV.out]; rfl), bbel⟩)
     ·go_wp2_with (first | (go_at_call 108; refine (CR _).mono ?_; rintro _ wl ⟨rfl, hcl⟩; have hcls := hcl.size; (try simp only [World.size_alloc, World.size_setCell] at hcls); have Y4 : Four wl w.heap.size (.int .i64 0) (.int .i64 0) (.string ⟨#[]⟩) (.string ⟨#[]⟩) := (by refine Four.keep ?_ hcl; refine ⟨?_, ?_, ?_, ?_, ?_, ?_, ?_, ?_, ?_⟩; all_goals first | (go_simp; done) | (first | (go_size; done) | (simp; done) | (simp; omega))); have E4 : Four wl wE.heap.size (.int .i64 (k : Int)) (.int .i64 0) (.string ⟨#[]⟩) (.string ⟨#[]⟩) := (by refine Four.keep ?_ hcl; refine ⟨?_, ?_, ?_, ?_, ?_, ?_, ?_, ?_, ?_⟩; all_goals first | (go_simp; done) | (first | (go_size; done) | (simp; done) | (simp; omega))); have hEl : Below w.heap.size w wl := (bbel); replace x1 : wl.cell? ⟨g, 1, none⟩ = some (.string u1) := qad hcl (by go_simp); (try (replace x2 : wl.cell? ⟨g, 2, none⟩ = some (.string u2) := qad hcl (by go_simp))); clear y0 y1 y2 y3 m0 m1 m2 m3; obtain ⟨_, y0, y1, y2, y3, m0, m1, m2, m3⟩ := Y4; obtain ⟨_, e0, e1, e2, e3, n0, n1, n2, n3⟩ := E4) | (go_at_call 71; refine (CT _).mono ?_; rintro _ wt ⟨rfl, hct⟩; have hcts := hct.size; (try simp only [World.size_alloc, World.size_setCell] at hcts); have Y4 : Four wt w.heap.size (.int .i64 0) (.int .i64 0) (.string ⟨#[]⟩) (.string ⟨#[]⟩) := (by refine Four.keep ?_ hct; refine ⟨?_, ?_, ?_, ?_, ?_, ?_, ?_, ?_, ?_⟩; all_goals first | (go_simp; done) | (first | (go_size; done) | (simp; done) | (simp; omega))); have E4 : Four wt wE.heap.size (.int .i64 (k : Int)) (.int .i64 (q)) (.string (⟨#[]⟩)) (.string (u2)) := (by refine Four.keep ?_ hct; refine ⟨?_, ?_, ?_, ?_, ?_, ?_, ?_, ?_, ?_⟩; all_goals first | (go_simp; done) | (first | (go_size; done) | (simp; done) | (simp; omega))); have hEt : Below w.heap.size w wt := (bbel); clear y0 y1 y2 y3 m0 m1 m2 m3; obtain ⟨_, y0, y1, y2, y3, m0, m1, m2, m3⟩ := Y4; obtain ⟨_, e0, e1, e2, e3, n0, n1, n2, n3⟩ := E4))
      (all_goals
       refine bodyPost_ret (v := ?_) ?hrun rfl ?_
       case hrun => (simp only [results, Tryz.results112]; go_simp; first | done | exact rfl)
       exact HR.out _ _ ⟨by first | (rw [RV.out]; done) | (rw [RV.out]; rfl), bbel⟩)
  ·have RT : Hid (insRead s = insGo s (16 - (k + 1)) (k + 1)) := qhd (by
    rw [GO1.out, if_neg (by
     intro h
     apply hq
     rw [isW_iff.1 h])])
   have hq' : ((tx (opText (k : Int))).toList == w0.toList) = false := by rw [beq_eq_false_iff_ne]; exact hq
   clear GO1 hq
   go_wp2_with fail
   refine qaj (by kernel_rfl) (by kernel_rfl) ?_
   repeat (go_big_quiet_step (first | (go_at_call 91; exact Calls.ins (SL _))))
   refine wpQuiet_nil ?_
   rintro wZ ⟨⟨wE, hwE⟩, hq⟩
   obtain rfl : wE = wZ := hq.symm
   clear hq
   have hwEs := hwE.size
   (try dsimp only)
   go_wp2
   go_roundw
   case measure => simp [intOf]; omega
   case rel => exact ⟨k + 1, by omega, by omega, by go_num, RT.out, hb.trans (hwE.mono hbs)⟩
theorem S_InsRead (s : ByteArray) (w : World) (hs : s.size ≤ 10000) :
  Calls Tryz.prog 112 #[.string s] w fun e w' => e = .returned (insT (insRead s)) ∧ Below w.heap.size w w' := S_InsReadL s w (by omega)

theorem rKndKind_goodT : GoodT NoT rKndKind := ⟨fun _ _ _ _ _ _ h => h, fun _ _ _ _ _ _ h => h⟩
theorem rKndKind_one : ∀ lo w cs x, rKndKind lo w cs x → ∀ u ∈ cs, u.oneCell' = true := by
 intro lo w cs x h u hu
 obtain ⟨rfl, _⟩ := h
 simp at hu
 rcases hu with rfl | rfl <;> rfl
theorem rClsField_goodT : GoodT NoT rClsField := ⟨fun _ _ _ _ _ _ h => h, fun _ _ _ _ _ _ h => h⟩
theorem rClsField_one : ∀ lo w cs x, rClsField lo w cs x → ∀ u ∈ cs, u.oneCell' = true := by
 intro lo w cs x h u hu
 obtain ⟨rfl, _⟩ := h
 simp at hu
 rcases hu with rfl | rfl | rfl <;> rfl
theorem rClsIns_goodT : GoodT NoT rClsIns := ⟨fun _ _ _ _ _ _ h => h, fun _ _ _ _ _ _ h => h⟩
theorem rClsIns_one : ∀ lo w cs x, rClsIns lo w cs x → ∀ u ∈ cs, u.oneCell' = true := by
 intro lo w cs x h u hu
 obtain ⟨rfl, _⟩ := h
 simp at hu
 rcases hu with rfl | rfl | rfl | rfl <;> rfl
theorem rTagTag_goodT : GoodT NoT rTagTag := ⟨fun _ _ _ _ _ _ h => h, fun _ _ _ _ _ _ h => h⟩
theorem rTagTag_one : ∀ lo w cs x, rTagTag lo w cs x → ∀ u ∈ cs, u.oneCell' = true := by
 intro lo w cs x h u hu
 obtain ⟨rfl, _⟩ := h
 simp at hu
 rcases hu with rfl | rfl <;> rfl
theorem rLodAsk_goodT : GoodT NoT rLodAsk := ⟨fun _ _ _ _ _ _ h => h, fun _ _ _ _ _ _ h => h⟩
theorem rLodAsk_one : ∀ lo w cs x, rLodAsk lo w cs x → ∀ u ∈ cs, u.oneCell' = true := by
 intro lo w cs x h u hu
 obtain ⟨rfl, _⟩ := h
 simp at hu
 rcases hu with rfl | rfl <;> rfl

def EClsMap : TypeId → Prop := fun e => e = 94
def tClsMap : RowRel DClsMap := fun lo w cs x => ∃ v1 v2 : Value, cs = [.int .i64 x.fAt, v1, v2] ∧ TSl 2 rTagTag 94 lo w v1 x.fLocals ∧ TSl 2 rTagTag 94 lo w v2 x.fStack
theorem tClsMap_goodT : GoodT EClsMap tClsMap := ⟨fun lo w w' cs x hk h => by
  obtain ⟨v1, v2, h0, s1, s2⟩ := h
  exact ⟨v1, v2, h0, s1.stays (rTagTag_goodT.mono fun _ h => h.elim) (by unfold EClsMap; simp) hk, s2.stays (rTagTag_goodT.mono fun _ h => h.elim) (by unfold EClsMap; simp) hk⟩, fun lo lo' w cs x hk h => by
  obtain ⟨v1, v2, h0, s1, s2⟩ := h
  exact ⟨v1, v2, h0, s1.low' rTagTag_goodT hk, s2.low' rTagTag_goodT hk⟩⟩
theorem tClsMap_r {lo : Nat} {w : World} {cs : List Value} {x : DClsMap} (h : tClsMap lo w cs x) : rClsMap lo w cs x := by
 obtain ⟨v1, v2, h0, s1, s2⟩ := h
 exact ⟨v1, v2, h0, s1.sl (fun _ _ h => h), s2.sl (fun _ _ h => h)⟩
theorem tClsMap_one : ∀ lo w cs x, tClsMap lo w cs x → ∀ u ∈ cs, u.oneCell' = true := by
 intro lo w cs x h u hu
 obtain ⟨v1, v2, h0, s1, s2⟩ := h
 subst h0
 obtain ⟨_, _, rfl, _, _⟩ := s1.form
 obtain ⟨_, _, rfl, _, _⟩ := s2.form
 simp at hu
 rcases hu with rfl | rfl | rfl <;> rfl
theorem EClsMap_not : ¬ EClsMap 98 := by unfold EClsMap; decide

def EClsMethod : TypeId → Prop := fun e => e = 61 ∨ e = 91 ∨ e = 98 ∨ e = 94
def tClsMethod : RowRel DClsMethod := fun lo w cs x => ∃ v1 v2 v3 : Value, cs = [.string x.fName, v1, .int .i64 x.fRet.fKind, .string x.fRet.fName, .int .i64 x.fLocals, .int .i64 x.fStack, v2, v3] ∧ TSl 2 rKndKind 61 lo w v1 x.fArgs ∧ TSl 4 rClsIns 91 lo w v2 x.fCode ∧ TSl 3 tClsMap 98 lo w v3 x.fMaps ∧ x.fName.size ≤ maxLen ∧ x.fRet.fName.size ≤ maxLen
theorem EClsMap_ClsMethod : ∀ e, EClsMap e → EClsMethod e := by
 unfold EClsMap EClsMethod
 intro e h
 rcases h with rfl <;> simp
theorem tClsMethod_goodT : GoodT EClsMethod tClsMethod := ⟨fun lo w w' cs x hk h => by
  obtain ⟨v1, v2, v3, h0, s1, s2, s3, b1, b2⟩ := h
  exact ⟨v1, v2, v3, h0, s1.stays (rKndKind_goodT.mono fun _ h => h.elim) (by unfold EClsMethod; simp) hk, s2.stays (rClsIns_goodT.mono fun _ h => h.elim) (by unfold EClsMethod; simp) hk, s3.stays (tClsMap_goodT.mono EClsMap_ClsMethod) (by unfold EClsMethod; simp) hk, b1, b2⟩, fun lo lo' w cs x hk h => by
  obtain ⟨v1, v2, v3, h0, s1, s2, s3, b1, b2⟩ := h
  exact ⟨v1, v2, v3, h0, s1.low' rKndKind_goodT hk, s2.low' rClsIns_goodT hk, s3.low' tClsMap_goodT hk, b1, b2⟩⟩
theorem tClsMethod_r {lo : Nat} {w : World} {cs : List Value} {x : DClsMethod} (h : tClsMethod lo w cs x) : rClsMethod lo w cs x := by
 obtain ⟨v1, v2, v3, h0, s1, s2, s3, b1, b2⟩ := h
 exact ⟨v1, v2, v3, h0, s1.sl (fun _ _ h => h), s2.sl (fun _ _ h => h), s3.sl (fun cs x h => tClsMap_r h), b1, b2⟩
theorem tClsMethod_one : ∀ lo w cs x, tClsMethod lo w cs x → ∀ u ∈ cs, u.oneCell' = true := by
 intro lo w cs x h u hu
 obtain ⟨v1, v2, v3, h0, s1, s2, s3, b1, b2⟩ := h
 subst h0
 obtain ⟨_, _, rfl, _, _⟩ := s1.form
 obtain ⟨_, _, rfl, _, _⟩ := s2.form
 obtain ⟨_, _, rfl, _, _⟩ := s3.form
 simp at hu
 rcases hu with rfl | rfl | rfl | rfl | rfl | rfl | rfl | rfl <;> rfl
theorem EClsMethod_not : ¬ EClsMethod 65 := by unfold EClsMethod; decide

def EClsClass : TypeId → Prop := fun e => e = 69 ∨ e = 65 ∨ e = 61 ∨ e = 91 ∨ e = 98 ∨ e = 94
def tClsClass : RowRel DClsClass := fun lo w cs x => ∃ v1 v2 : Value, cs = [.string x.fName, .string x.fSuper, v1, v2] ∧ TSl 3 rClsField 69 lo w v1 x.fFields ∧ TSl 8 tClsMethod 65 lo w v2 x.fMethods ∧ x.fName.size ≤ maxLen ∧ x.fSuper.size ≤ maxLen
theorem EClsMethod_ClsClass : ∀ e, EClsMethod e → EClsClass e := by
 unfold EClsMethod EClsClass
 intro e h
 rcases h with rfl | rfl | rfl | rfl <;> simp
theorem tClsClass_goodT : GoodT EClsClass tClsClass := ⟨fun lo w w' cs x hk h => by
  obtain ⟨v1, v2, h0, s1, s2, b1, b2⟩ := h
  exact ⟨v1, v2, h0, s1.stays (rClsField_goodT.mono fun _ h => h.elim) (by unfold EClsClass; simp) hk, s2.stays (tClsMethod_goodT.mono EClsMethod_ClsClass) (by unfold EClsClass; simp) hk, b1, b2⟩, fun lo lo' w cs x hk h => by
  obtain ⟨v1, v2, h0, s1, s2, b1, b2⟩ := h
  exact ⟨v1, v2, h0, s1.low' rClsField_goodT hk, s2.low' tClsMethod_goodT hk, b1, b2⟩⟩
theorem tClsClass_r {lo : Nat} {w : World} {cs : List Value} {x : DClsClass} (h : tClsClass lo w cs x) : rClsClass lo w cs x := by
 obtain ⟨v1, v2, h0, s1, s2, b1, b2⟩ := h
 exact ⟨v1, v2, h0, s1.sl (fun _ _ h => h), s2.sl (fun cs x h => tClsMethod_r h), b1, b2⟩
theorem tClsClass_one : ∀ lo w cs x, tClsClass lo w cs x → ∀ u ∈ cs, u.oneCell' = true := by
 intro lo w cs x h u hu
 obtain ⟨v1, v2, h0, s1, s2, b1, b2⟩ := h
 subst h0
 obtain ⟨_, _, rfl, _, _⟩ := s1.form
 obtain ⟨_, _, rfl, _, _⟩ := s2.form
 simp at hu
 rcases hu with rfl | rfl | rfl | rfl <;> rfl
theorem EClsClass_not : ¬ EClsClass 37 := by unfold EClsClass; decide

def ELodKeeper : TypeId → Prop := fun e => e = 37 ∨ e = 69 ∨ e = 65 ∨ e = 61 ∨ e = 91 ∨ e = 98 ∨ e = 94 ∨ e = 51
def tLodKeeper : RowRel DLodKeeper := fun lo w cs x => ∃ v1 v2 : Value, cs = [v1, v2] ∧ TSl 4 tClsClass 37 lo w v1 x.fOwns ∧ TSl 2 rLodAsk 51 lo w v2 x.fAsks
theorem EClsClass_LodKeeper : ∀ e, EClsClass e → ELodKeeper e := by
 unfold EClsClass ELodKeeper
 intro e h
 rcases h with rfl | rfl | rfl | rfl | rfl | rfl <;> simp
theorem tLodKeeper_goodT : GoodT ELodKeeper tLodKeeper := ⟨fun lo w w' cs x hk h => by
  obtain ⟨v1, v2, h0, s1, s2⟩ := h
  exact ⟨v1, v2, h0, s1.stays (tClsClass_goodT.mono EClsClass_LodKeeper) (by unfold ELodKeeper; simp) hk, s2.stays (rLodAsk_goodT.mono fun _ h => h.elim) (by unfold ELodKeeper; simp) hk⟩, fun lo lo' w cs x hk h => by
  obtain ⟨v1, v2, h0, s1, s2⟩ := h
  exact ⟨v1, v2, h0, s1.low' tClsClass_goodT hk, s2.low' rLodAsk_goodT hk⟩⟩
theorem tLodKeeper_r {lo : Nat} {w : World} {cs : List Value} {x : DLodKeeper} (h : tLodKeeper lo w cs x) : rLodKeeper lo w cs x := by
 obtain ⟨v1, v2, h0, s1, s2⟩ := h
 exact ⟨v1, v2, h0, s1.sl (fun cs x h => tClsClass_r h), s2.sl (fun _ _ h => h)⟩
theorem tLodKeeper_one : ∀ lo w cs x, tLodKeeper lo w cs x → ∀ u ∈ cs, u.oneCell' = true := by
 intro lo w cs x h u hu
 obtain ⟨v1, v2, h0, s1, s2⟩ := h
 subst h0
 obtain ⟨_, _, rfl, _, _⟩ := s1.form
 obtain ⟨_, _, rfl, _, _⟩ := s2.form
 simp at hu
 rcases hu with rfl | rfl <;> rfl
theorem ELodKeeper_not : ¬ ELodKeeper 45 := by unfold ELodKeeper; decide

end Go.Proofs.YtfbonocadpknbaaGreatDoor
