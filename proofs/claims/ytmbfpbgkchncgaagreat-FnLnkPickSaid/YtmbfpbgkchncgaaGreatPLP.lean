/-
  Texts of mine, packed: LawLP, RowLP. No condition beside those of the single theorems.
-/
import Derived.Test.YtmbfpbgkchncgaaGreatK22
import Derived.Test.YtmbfpbgkchncgaaGreatK23
import Derived.Test.YtmbfpbgkchncgaaGreatK21
import Derived.Test.YtmbfpbgkchncgaaGreatK2
import Derived.Test.YtmbfpbgkchncgaaGreatK6
import Derived.Test.YtmbfpbgkchncgaaGreatK17
import Derived.Test.YtmbfpbgkchncgaaGreatK13
set_option linter.unusedSimpArgs false
set_option linter.unusedVariables false
set_option maxHeartbeats 16000000
set_option maxRecDepth 100000
namespace Go.Proofs.YtmbfpbgkchncgaaGreat
open Go.RowKit
theorem L_loOkP (w : World) : Calls Tryz.prog 11 #[] w fun e w' => e = .returned (.bool true) ∧ Below w.heap.size w w' := by
 refine qac fun R HR => ?_
 go_enter Tryz.func11, Tryz.ntmps11
 go_wp2_with (go_at_call 40; refine (I_NamOk _ _ (by decide)).mono ?_; rintro _ _ ⟨rfl, rfl⟩)
 all_goals (try go_returns)
 all_goals exact HR.out _ _ ⟨rfl, bbel⟩

theorem there_below {w w' : World} {b n : Nat} (h : Below w.heap.size w w') (hb : b < w.heap.size) (ht : w.there b 0 n) : w'.there b 0 n := fun j hj => by
 obtain ⟨h1, h2⟩ := ht j hj
 exact ⟨by rw [qae (h.block b hb)]; exact h1, (qai (h.block b hb)).trans h2⟩
theorem World.there.setCells {w : World} {b : Nat} {cs : List Value} {e n : Nat} (h : w.there e 0 n) : (w.setCells b 0 cs).there e 0 n := fun j hj => ⟨World.isSome_setCells b cs _ w _ (h j hj).1, by rw [World.frozen?_setCells]; exact (h j hj).2⟩
theorem wp_store_rowO {P : Program} {op : Oper} {a : Act} {w : World} {K : Act → World → Prop} {Q : Exit → Act → World → Prop} (ty : TypeId) (x y : Operand) (ho : op.op = .store ty x y)
  (b : Nat) (cs : List Value) (hx : a.eval x = .pointer (some ⟨b, 0, none⟩)) (hy : a.eval y = .agg cs.toArray)
  (ht : w.there b 0 cs.length) (hi : (P.info? ty).map (·.size) = some cs.length) (h1 : ∀ v ∈ cs, v.oneCell' = true)
  (h : ∀ w', w'.rangeAt b 0 cs → w'.there b 0 cs.length → Turn b w w' → (∀ e n, w.there e 0 n → w'.there e 0 n) → K (a.put op.dst undef) w') : op.wp P a w K Q := by
 refine wp_store_mid ty x y ho b 0 cs.toArray hx hy (by simpa using ht) (by simpa using hi) (all_oneCell_toArray h1) ?_
 exact h _ (World.rangeAt_setCells_same w b 0 cs ht) (World.there.setCells ht) (Turn.setCells b _ 0 w) (fun e n he => World.there.setCells he)
def rwG (j0 j : Nat) (w w' : World) : Prop := (j ≠ j0 ∧ Below w.heap.size w w') ∨ (j = j0 ∧ w.heap.size ≤ w'.heap.size ∧ ∀ e n, w.there e 0 n → w'.there e 0 n)
theorem rw_rfl (j0 j : Nat) (w : World) : rwG j0 j w w := by
 by_cases h : j = j0
 ·exact Or.inr ⟨h, Nat.le_refl _, fun _ _ h => h⟩
 ·exact Or.inl ⟨h, Below.refl _ _⟩
theorem rw_of {j0 j : Nat} {w w' : World} (hj : j ≠ j0) (h : Below w.heap.size w w') : rwG j0 j w w' := Or.inl ⟨hj, h⟩
theorem rw_store {j0 : Nat} {w w' : World} (hs : w.heap.size ≤ w'.heap.size) (h : ∀ e n, w.there e 0 n → w'.there e 0 n) : rwG j0 j0 w w' := Or.inr ⟨rfl, hs, h⟩
theorem rw_size {j0 j : Nat} {w w' : World} (h : rwG j0 j w w') : w.heap.size ≤ w'.heap.size := by
 rcases h with ⟨_, h⟩ | ⟨_, h, _⟩
 ·exact h.size
 ·exact h
theorem rw_there {j0 j e n : Nat} {w w' : World} (h : rwG j0 j w w') (he : e < w.heap.size) (ht : w.there e 0 n) : w'.there e 0 n := by
 rcases h with ⟨_, h⟩ | ⟨_, _, h⟩
 ·exact there_below h he ht
 ·exact h e n ht
theorem wf_small {k : Int} (h : -1 ≤ k ∧ k ≤ 9) : (Lit.int .i64 k).wf = true := by
 obtain ⟨h1, h2⟩ := h
 have : k = -1 ∨ k = 0 ∨ k = 1 ∨ k = 2 ∨ k = 3 ∨ k = 4 ∨ k = 5 ∨ k = 6 ∨ k = 7 ∨ k = 8 ∨ k = 9 := by omega
 rcases this with rfl | rfl | rfl | rfl | rfl | rfl | rfl | rfl | rfl | rfl | rfl <;> rfl
theorem chain_small {p : DLodPlan} {r : DLodRef} (hn : r.fName.size ≤ maxLen) {x : DLodRef} (hx : x ∈ lodChain p r) : -1 ≤ x.fKeeper ∧ x.fKeeper ≤ 9 := by
 obtain ⟨c, hc, _, _, hp⟩ := chain_cls hn hx
 obtain ⟨k, hk, hkl⟩ := clsAt_in hc
 have := lodOk_len hp
 omega
theorem refs_at2 {w : World} {base : Nat} {v : Value} {rs : List DLodRef} (h : Refs w base v rs) (h0 : 0 < rs.length) : ∃ g cap, v = .slice (some ⟨g, 0, none⟩) rs.length cap ∧ g < w.heap.size ∧ rs.length ≤ cap ∧ cap ≤ maxLen := by
 obtain ⟨g, cap, rfl, h1, h2, h3, h4, _⟩ := own_cell h h0
 exact ⟨g, cap, rfl, h2, h3, h4⟩
theorem mth_row {w : World} {v : Value} {xs : List DClsMethod} (h : Sl 8 rClsMethod 0 w v xs) {s : Nat} {m : DClsMethod} (hm : xs[s]? = some m) : ∃ (mb mo ml mc : Nat) (va : Option Addr) (vn vc : Nat) (u2 u3 : Value), v = .slice (some ⟨mb, mo, none⟩) ml mc ∧ s < ml ∧ ml ≤ 9223372036854775807 ∧ mb < w.heap.size ∧ Sl 2 rKndKind 0 w (.slice va vn vc) m.fArgs ∧ m.fRet.fName.size ≤ maxLen ∧ u2.oneCell' = true ∧ u3.oneCell' = true ∧
  w.rangeAt mb (mo + s * 8) [.string m.fName, .slice va vn vc, .int .i64 m.fRet.fKind, .string m.fRet.fName, .int .i64 m.fLocals, .int .i64 m.fStack, u2, u3] := by
 obtain ⟨a, len, cap, rfl, hl, h1, h2, h3⟩ := h
 have hs := (List.getElem?_eq_some_iff.1 hm).1
 obtain ⟨b, off, rfl, _, hbl, hr⟩ := h3 (by omega)
 obtain ⟨m', cs, g0, g1, g2, g3⟩ := hr s (by omega)
 obtain rfl : m = m' := Option.some.inj (hm.symm.trans g0)
 obtain ⟨v1, v2, v3, rfl, s1, s2, s3, b1, b2⟩ := g3
 obtain ⟨va, vn, vc, rfl⟩ := s1.form
 obtain ⟨_, _, _, rfl⟩ := s2.form
 obtain ⟨_, _, _, rfl⟩ := s3.form
 exact ⟨b, off, len, cap, va, vn, vc, _, _, rfl, by omega, by unfold maxLen at h2; omega, hbl, s1, b2, rfl, rfl, g2⟩
theorem knd_row {w : World} {va : Option Addr} {vn vc : Nat} {ks : List DKndKind} (h : Sl 2 rKndKind 0 w (.slice va vn vc) ks) {j : Nat} {kd : DKndKind} (hk : ks[j]? = some kd) : ∃ (vb vo : Nat), va = some ⟨vb, vo, none⟩ ∧ vb < w.heap.size ∧ kd.fName.size ≤ maxLen ∧ w.cell? ⟨vb, vo + j * 2, none⟩ = some (.int .i64 kd.fKind) ∧ w.cell? ⟨vb, vo + j * 2 + 1, none⟩ = some (.string kd.fName) := by
 obtain ⟨a, len, cap, e, hl, h1, h2, h3⟩ := h
 cases e
 have hs := (List.getElem?_eq_some_iff.1 hk).1
 obtain ⟨b, off, rfl, _, hbl, hr⟩ := h3 (by omega)
 obtain ⟨m', cs, g0, g1, g2, g3⟩ := hr j (by omega)
 obtain rfl : kd = m' := Option.some.inj (hk.symm.trans g0)
 obtain ⟨rfl, b2⟩ := g3
 exact ⟨b, off, rfl, hbl, b2, g2 0 _ rfl, g2 1 _ rfl⟩
theorem knd_len {w : World} {va : Option Addr} {vn vc : Nat} {ks : List DKndKind} (h : Sl 2 rKndKind 0 w (.slice va vn vc) ks) : ks.length = vn ∧ vn ≤ vc ∧ vc ≤ 9223372036854775807 := by
 obtain ⟨a, len, cap, e, hl, h1, h2, h3⟩ := h
 cases e
 exact ⟨hl, h1, by unfold maxLen at h2; omega⟩

theorem L_loKinds (va vb : Value) (ks : List DKndKind) (w : World) (h1 : Sl 2 rKndKind 0 w va ks) (h2 : Sl 2 rKndKind 0 w vb ks) :
  Calls Tryz.prog 28 #[va, vb] w fun e w' => e = .returned (.bool true) ∧ Below w.heap.size w w' := by
 obtain ⟨a1, n, c1, rfl⟩ := h1.form
 obtain ⟨a2, n2, c2, rfl⟩ := h2.form
 obtain ⟨hn, l1, l2⟩ := knd_len h1
 obtain ⟨hn2, l3, l4⟩ := knd_len h2
 obtain rfl : n2 = n := hn2.symm.trans hn
 have m1 : n2 ≤ 9223372036854775807 := by omega
 have H1 := qhd h1
 have H2 := qhd h2
 have HN := qhd hn
 clear h1 h2 hn hn2
 refine qac fun R HR => ?_
 go_enter Tryz.func28, Tryz.ntmps28
 go_wp2_with fail
 go_loopw [5] (fun z wr => ∃ k : Nat, k ≤ n2 ∧ z = .int .i64 k ∧ Below w.heap.size w wr) (fun z _ => n2 - (intOf z).toNat)
 case atStart => exact ⟨0, Nat.zero_le _, rfl, bbel⟩
 case round =>
  obtain ⟨k, hk, rfl, hb⟩ := hrel
  have hbs := hb.size
  by_cases hlt : k < n2
  ·have hlt2 : (k : Int) < (n2 : Int) := by omega
   obtain ⟨x, hx⟩ : ∃ x, ks[k]? = some x := ⟨_, List.getElem?_eq_getElem (by have := HN.out; omega)⟩
   obtain ⟨g1, o1, rfl, l5, _, p1, p2⟩ := knd_row (H1.out.stays qan (Keeps.of_below hb)) hx
   obtain ⟨g2, o2, rfl, l6, _, p3, p4⟩ := knd_row (H2.out.stays qan (Keeps.of_below hb)) hx
   clear hx
   go_wp2_with fail
   first | (go_quiet (fail)) | skip
   go_wp2
   go_roundw
   case measure => simp [intOf]; omega
   case rel => exact ⟨k + 1, by omega, by go_num, Below.drewN hb _⟩
  ·obtain rfl : k = n2 := by omega
   go_wp2
   all_goals (try go_returns)
   all_goals exact HR.out _ _ ⟨rfl, bbel⟩

def pF (vs : Nat → Value) (B : Nat) (pv : Value) (g n gc k : Nat) (xk : Int) (xn nm : ByteArray) (bk : Int) (bn : ByteArray) (bt : Int) (th : Bool) : Nat → Value → World → Prop
 | 0, v, w => v = .agg #[pv]
 | 1, v, w => v = .slice (some ⟨g, 0, none⟩) n gc
 | 2, v, w => v = .int .i64 (k : Int)
 | 3, v, w => v = .pointer (some ⟨g, k * 2, none⟩)
 | 4, v, w => v = .agg #[.int .i64 xk, .string xn]
 | 5, v, w => v = .string nm
 | 6, v, w => v = .tuple #[.agg #[.int .i64 bk, .string bn, .int .i64 bt], .bool th]
 | 7, v, w => v = .tuple #[.agg #[.int .i64 bk, .string bn, .int .i64 bt], .bool th]
 | 8, v, w => v = .agg #[.int .i64 bk, .string bn, .int .i64 bt]
 | 9, v, w => v = .bool th
 | 10, v, w => ∃ e : Nat, v = .pointer (some ⟨e, 0, none⟩) ∧ B ≤ e ∧ e < w.heap.size ∧ w.there e 0 3
 | 11, v, w => ∃ e : Nat, vs 10 = .pointer (some ⟨e, 0, none⟩) ∧ B ≤ e ∧ e < w.heap.size ∧ w.rangeAt e 0 ([.int .i64 bk, .string bn, .int .i64 bt]) ∧ w.there e 0 3
 | 12, v, w => v = .bool th
 | _, _, _ => True
theorem pF_stays {vs : Nat → Value} {B : Nat} {pv : Value} {g n gc k : Nat} {xk : Int} {xn nm : ByteArray} {bk : Int} {bn : ByteArray} {bt : Int} {th : Bool} : ∀ i j u w w', i ≠ j → rwG 11 j w w' → pF vs B pv g n gc k xk xn nm bk bn bt th i u w → pF vs B pv g n gc k xk xn nm bk bn bt th i u w' := by
 intro i j u w w' hne hg h
 match i with
 | 0 | 1 | 2 | 3 | 4 | 5 | 6 | 7 | 8 | 9 | 12 => exact h
 | 10 =>
   obtain ⟨e, h1, h2, h3, h4⟩ := h
   exact ⟨e, h1, h2, Nat.lt_of_lt_of_le h3 (rw_size hg), rw_there hg h3 h4⟩
 | 11 =>
   obtain ⟨e, h1, h2, h3, h4, h5⟩ := h
   rcases hg with ⟨_, hg⟩ | ⟨rfl, _⟩
   ·exact ⟨e, h1, h2, Nat.lt_of_lt_of_le h3 hg.size, range_below h4 hg h3, there_below hg h3 h5⟩
   ·exact absurd rfl hne
 | n + 13 => trivial
theorem pF_dep {l : List Oper} {m : Nat} {B : Nat} {pv : Value} {g n gc k : Nat} {xk : Int} {xn nm : ByteArray} {bk : Int} {bn : ByteArray} {bt : Int} {th : Bool} (h : ∀ o, l[11]? = some o → ∃ e ∈ o.after, Region.binds .any e = true ∧ e.on = 10) : DepF (fun vs => pF vs B pv g n gc k xk xn nm bk bn bt th) l m := by
 intro i o vs vs' u w hi ho he hf
 match i with
 | 0 | 1 | 2 | 3 | 4 | 5 | 6 | 7 | 8 | 9 | 10 | 12 => exact hf
 | 11 =>
   obtain ⟨e, h1, h2, h3⟩ := h o ho
   have h4 := he e h1 h2
   rw [h3] at h4
   obtain ⟨e', h5, h6⟩ := hf
   exact ⟨e', by rw [← h4]; exact h5, h6⟩
 | n + 13 => trivial
def mF (vs : Nat → Value) (B T : Nat) (pv : Value) (kk : Int) (kn : ByteArray) (cv : Value) (mb mo ml mc s : Nat) (row : List Value) : Nat → Value → World → Prop
 | 0, v, w => v = .agg #[pv]
 | 1, v, w => v = .pointer (some ⟨T, 0, none⟩)
 | 2, v, w => v = .agg #[.int .i64 kk, .string kn]
 | 3, v, w => v = cv
 | 4, v, w => v = .slice (some ⟨mb, mo, none⟩) ml mc
 | 5, v, w => v = .pointer (some ⟨T, 2, none⟩)
 | 6, v, w => v = .int .i64 (s : Int)
 | 7, v, w => v = .pointer (some ⟨mb, mo + s * 8, none⟩)
 | 8, v, w => v = .agg row.toArray
 | 9, v, w => ∃ e : Nat, v = .pointer (some ⟨e, 0, none⟩) ∧ B ≤ e ∧ e < w.heap.size ∧ w.there e 0 8
 | 10, v, w => ∃ e : Nat, vs 9 = .pointer (some ⟨e, 0, none⟩) ∧ B ≤ e ∧ e < w.heap.size ∧ w.rangeAt e 0 (row) ∧ w.there e 0 8
 | _, _, _ => True
theorem mF_stays {vs : Nat → Value} {B T : Nat} {pv : Value} {kk : Int} {kn : ByteArray} {cv : Value} {mb mo ml mc s : Nat} {row : List Value} : ∀ i j u w w', i ≠ j → rwG 10 j w w' → mF vs B T pv kk kn cv mb mo ml mc s row i u w → mF vs B T pv kk kn cv mb mo ml mc s row i u w' := by
 intro i j u w w' hne hg h
 match i with
 | 0 | 1 | 2 | 3 | 4 | 5 | 6 | 7 | 8 => exact h
 | 9 =>
   obtain ⟨e, h1, h2, h3, h4⟩ := h
   exact ⟨e, h1, h2, Nat.lt_of_lt_of_le h3 (rw_size hg), rw_there hg h3 h4⟩
 | 10 =>
   obtain ⟨e, h1, h2, h3, h4, h5⟩ := h
   rcases hg with ⟨_, hg⟩ | ⟨rfl, _⟩
   ·exact ⟨e, h1, h2, Nat.lt_of_lt_of_le h3 hg.size, range_below h4 hg h3, there_below hg h3 h5⟩
   ·exact absurd rfl hne
 | n + 11 => trivial
theorem mF_dep {l : List Oper} {m : Nat} {B T : Nat} {pv : Value} {kk : Int} {kn : ByteArray} {cv : Value} {mb mo ml mc s : Nat} {row : List Value} (h : ∀ o, l[10]? = some o → ∃ e ∈ o.after, Region.binds .any e = true ∧ e.on = 9) : DepF (fun vs => mF vs B T pv kk kn cv mb mo ml mc s row) l m := by
 intro i o vs vs' u w hi ho he hf
 match i with
 | 0 | 1 | 2 | 3 | 4 | 5 | 6 | 7 | 8 | 9 => exact hf
 | 10 =>
   obtain ⟨e, h1, h2, h3⟩ := h o ho
   have h4 := he e h1 h2
   rw [h3] at h4
   obtain ⟨e', h5, h6⟩ := hf
   exact ⟨e', by rw [← h4]; exact h5, h6⟩
 | n + 11 => trivial
def nF (pv : Value) (T U e : Nat) (ak bk : Int) (vb vo vn vc jj : Nat) (dk : Int) (dn : ByteArray) : Nat → Value → World → Prop
 | 0, v, w => v = .agg #[pv]
 | 1, v, w => v = .pointer (some ⟨T, 0, none⟩)
 | 2, v, w => v = .pointer (some ⟨T, 0, none⟩)
 | 3, v, w => v = .int .i64 ak
 | 4, v, w => v = .pointer (some ⟨U, 0, none⟩)
 | 5, v, w => v = .pointer (some ⟨U, 0, none⟩)
 | 6, v, w => v = .int .i64 bk
 | 7, v, w => v = .pointer (some ⟨e, 1, none⟩)
 | 8, v, w => v = .slice (some ⟨vb, vo, none⟩) vn vc
 | 9, v, w => v = .int .i64 (jj : Int)
 | 10, v, w => v = .pointer (some ⟨vb, vo + jj * 2, none⟩)
 | 11, v, w => v = .agg #[.int .i64 dk, .string dn]
 | 12, v, w => v = .bool true
 | 13, v, w => v = .bool false
 | _, _, _ => True
theorem nF_stays {pv : Value} {T U e : Nat} {ak bk : Int} {vb vo vn vc jj : Nat} {dk : Int} {dn : ByteArray} : ∀ i j u w w', i ≠ j → Below w.heap.size w w' → nF pv T U e ak bk vb vo vn vc jj dk dn i u w → nF pv T U e ak bk vb vo vn vc jj dk dn i u w' := by
 intro i j u w w' hne hg h
 match i with
 | 0 | 1 | 2 | 3 | 4 | 5 | 6 | 7 | 8 | 9 | 10 | 11 | 12 | 13 => exact h
 | n + 14 => trivial

theorem L_FnLnkPick (v : Value) (w : World) (hv : Bytes w v) :
  Calls Tryz.prog 7 #[v] w fun e w' => e = .returned (.bool true) ∧ Below w.heap.size w w' := by
 obtain ⟨c, len, cap, rfl, g1, g2, g3⟩ := id hv
 have m1 : len ≤ 9223372036854775807 := by unfold maxLen at g2; omega
 clear g2 g3
 refine qac fun R HR => ?_
 go_enter Tryz.func7, Tryz.ntmps7
 go_wp2_with fail
 all_goals first
  | (try go_returns
     exact HR.out _ _ ⟨rfl, bbel⟩)
  | skip
 refine (S_DrawLnkPick _ _ hv).mono ?_
 rintro _ w1 ⟨⟨pv, pl, k1, n1, nm, rfl, hs, hn1, hk1, hnm⟩, h1⟩
 have h1s := (h1).size; (try simp only [qsz] at h1s)
 obtain ⟨fa, fl, fc, rfl⟩ := hs.form
 have hwf := wf_small hk1
 have hnm2 : nm.size ≤ maxLen := by unfold maxLen; omega
 obtain ⟨u, hu⟩ : ∃ x, lnkPick pl ⟨k1, n1⟩ nm = x := ⟨_, rfl⟩
 obtain ⟨z, hz⟩ : ∃ x, lnkLaid pl ⟨k1, n1⟩ = x := ⟨_, rfl⟩
 obtain ⟨y, hy⟩ : ∃ x, namOk nm = x := ⟨_, rfl⟩
 have KS : Hid (∀ W, Below w1.heap.size w1 W → Sl 2 rLodKeeper 0 W (.slice fa fl fc) pl.fKeepers) := qhd fun W hW => hs.stays rLodKeeper_good (Keeps.of_below' hW (Nat.le_refl _))
 have CP : Hid (∀ (W : World) (x : DLodRef), x.fName.size ≤ maxLen → -1 ≤ x.fKeeper ∧ x.fKeeper ≤ 9 → Below w1.heap.size w1 W → Calls Tryz.prog 25 #[.agg #[.slice fa fl fc], .agg #[.int .i64 x.fKeeper, .string x.fName], .string nm] W fun e w' => e = .returned (pickT (lnkPick pl x nm)) ∧ Below W.heap.size W w') := qhd fun W x hx hk hW => I_LnkPick pl _ x nm W (KS.out W hW) hx (wf_small hk)
 have CI : Hid (∀ W, Below w1.heap.size w1 W → Calls Tryz.prog 25 #[.agg #[.slice fa fl fc], .agg #[.int .i64 k1, .string n1], .string nm] W fun e w' => e = .returned (pickT u) ∧ Below W.heap.size W w') := qhd fun W hW => by rw [← hu]; exact CP.out W ⟨k1, n1⟩ hn1 hk1 hW
 have CS : Hid (∀ W, Below w1.heap.size w1 W → Calls Tryz.prog 26 #[.agg #[.slice fa fl fc], .agg #[.int .i64 k1, .string n1], .string nm] W fun e w' => e = .returned (pickT u) ∧ Below W.heap.size W w') := qhd fun W hW => by rw [← hu]; exact S_LnkPick pl _ ⟨k1, n1⟩ nm W (KS.out W hW) hn1 hnm2
 have CL : Hid (∀ W, Below w1.heap.size w1 W → Calls Tryz.prog 17 #[.agg #[.slice fa fl fc], .agg #[.int .i64 k1, .string n1]] W fun e w' => e = .returned (.bool z) ∧ Below W.heap.size W w') := qhd fun W hW => by rw [← hz]; exact I_LnkLaid pl _ ⟨k1, n1⟩ W (KS.out W hW) hn1 hwf
 have CN : Hid (∀ W, Calls Tryz.prog 27 #[.string nm] W fun e w' => e = .returned (.bool y) ∧ W = w') := qhd fun W => by rw [← hy]; exact S_NamOk nm W hnm2
 have CC : Hid (∀ W, Below w1.heap.size w1 W → Calls Tryz.prog 20 #[.agg #[.slice fa fl fc], .agg #[.int .i64 k1, .string n1]] W fun e w' => (∃ v, e = .returned v ∧ Refs w' W.heap.size v (lodChain pl ⟨k1, n1⟩)) ∧ Below W.heap.size W w') := qhd fun W hW => I_LodChain pl _ ⟨k1, n1⟩ W (KS.out W hW) hn1
 have LO : Hid (∀ x : DLodRef, LoOfX pl (.slice fa fl fc) x w1) := qhd fun x => L_loOfX pl _ x w1 hs
 have CA : Hid (∀ (W : World) (ki kj : Int) (kd : DKndKind), kd.fName.size ≤ maxLen → Below w1.heap.size w1 W → Calls Tryz.prog 29 #[.agg #[.slice fa fl fc], .int .i64 ki, .int .i64 kj, .agg #[.int .i64 kd.fKind, .string kd.fName]] W fun e w' => e = .returned (.bool (lnkAgree pl ki kj kd)) ∧ Below W.heap.size W w') := qhd fun W ki kj kd hk hW => I_LnkAgree pl _ ki kj kd W (KS.out W hW) hk
 have CU : Hid (∀ (W : World) (x : DLodRef), Below w1.heap.size w1 W → Calls Tryz.prog 30 #[.agg #[.slice fa fl fc], .agg #[.int .i64 k1, .string n1], .agg #[.int .i64 x.fKeeper, .string x.fName]] W fun e w' => e = .returned (.bool (lodUnder pl ⟨k1, n1⟩ x)) ∧ Below W.heap.size W w') := qhd fun W x hW => I_LodUnder pl _ ⟨k1, n1⟩ x W (KS.out W hW) hn1
 obtain ⟨rs, hrs⟩ : ∃ rs, lodChain pl ⟨k1, n1⟩ = rs := ⟨_, rfl⟩
 have HRS := qhd hrs
 rw [hrs] at CC
 clear hrs
 have HK3 : Hid ((Tryz.prog.info? 68).map (·.size) = some 3) := qhd (by kernel_rfl)
 have HK8 : Hid ((Tryz.prog.info? 76).map (·.size) = some 8) := qhd (by kernel_rfl)
 have HU := qhd hu
 have HZ := qhd hz
 have HY := qhd hy
 clear hs hu hz hy
 obtain ⟨⟨ak, an⟩, asx, ok⟩ := u
 simp only [pickT] at CI CS
 go_wp2_with fail
 refine (CI.out _ (bbel)).mono ?_
 rintro _ w2 ⟨rfl, h2⟩
 have h2s := (h2).size; (try simp only [qsz] at h2s)
 obtain ⟨h2pd, h2po, h2pg, h2pp, h2px, h2py, h2pc1, h2pf1, h2pz1⟩ := bf2 (n := w1.heap.size) h2
 go_wp2_with fail
 obtain ⟨wB, hwB⟩ : ∃ W, W = w2.alloc (.cells #[.int .i64 ak, .string an, .int .i64 asx] 68) := ⟨_, rfl⟩
 have hzB : wB.heap.size = w2.heap.size + 1 := by rw [hwB]; simp
 have hB1 : Below w1.heap.size w1 wB := by rw [hwB]; exact bbel
 have r0 : wB.cell? ⟨w1.heap.size, 0, none⟩ = some (.slice fa fl fc) := by rw [hwB]; go_simp
 have r1 : wB.cell? ⟨w1.heap.size + 1, 0, none⟩ = some (.int .i64 k1) := by rw [hwB]; go_simp
 have r2 : wB.cell? ⟨w1.heap.size + 1, 1, none⟩ = some (.string n1) := by rw [hwB]; go_simp
 have a0 : wB.cell? ⟨w2.heap.size, 0, none⟩ = some (.int .i64 ak) := by rw [hwB]; go_simp
 have a1 : wB.cell? ⟨w2.heap.size, 1, none⟩ = some (.string an) := by rw [hwB]; go_simp
 have a2 : wB.cell? ⟨w2.heap.size, 2, none⟩ = some (.int .i64 asx) := by rw [hwB]; go_simp
 obtain ⟨MA, hMA⟩ : ∃ M, M = w2.heap.size := ⟨_, rfl⟩
 have hlB0 : w1.heap.size + 1 < wB.heap.size := by omega
 have hlB1 : MA < wB.heap.size := by omega
 rw [← hwB]
 rw [← hMA] at a0 a1 a2 ⊢
 have hMA1 : w1.heap.size + 1 < MA := by omega
 clear h2pd h2pg h2px h2py h2po h2pp h2pc1 h2pf1 h2pz1 h2 h2s hwB hMA hzB
 refine (CS.out _ hB1).mono ?_
 rintro _ w3 ⟨rfl, h3⟩
 have hs3 := h3.size
 have hB3 : Below w1.heap.size w1 w3 := hB1.trans (h3.mono hB1.size)
 replace r0 := qaa h3 r0
 replace r1 := qaa h3 r1
 replace r2 := qaa h3 r2
 replace a0 := qaa h3 a0
 replace a1 := qaa h3 a1
 replace a2 := qaa h3 a2
 have hl3a : w1.heap.size < w3.heap.size := by omega
 have hl30 : w1.heap.size + 1 < w3.heap.size := by omega
 have hl31 : MA < w3.heap.size := by omega
 clear h3 hB1 hs3 hlB0 hlB1
 go_wp2_with fail
 refine (CL.out _ (hB3.alloc hB3.size _)).mono ?_
 rintro _ w4 ⟨rfl, h4⟩
 have hs4 := h4.size
 simp only [World.size_alloc] at hs4
 have h4' : Below w3.heap.size w3 w4 := ((Below.refl _ _).alloc (Nat.le_refl _) _).trans (h4.mono (by simp))
 have hB4 : Below w1.heap.size w1 w4 := hB3.trans (h4'.mono hB3.size)
 replace r0 := qaa h4' r0
 replace r1 := qaa h4' r1
 replace r2 := qaa h4' r2
 replace a0 := qaa h4' a0
 replace a1 := qaa h4' a1
 replace a2 := qaa h4' a2
 have hl4a : w1.heap.size < w4.heap.size := by omega
 have hl40 : w1.heap.size + 1 < w4.heap.size := by omega
 have hl41 : MA < w4.heap.size := by omega
 clear h4 h4' hB3 hs4 hl30 hl31 hl3a
 cases z
 ·have hok : ok = false := by
   have h1 := HU.out
   unfold lnkPick at h1
   rw [HZ.out] at h1
   simp only [Bool.false_and, Bool.false_eq_true, if_false, Prod.mk.injEq] at h1
   exact h1.2.2.symm
  subst hok
  go_wp2_with (go_at_call 11; refine (L_loOkP _).mono ?_; rintro _ w9 ⟨rfl, h9⟩)
  all_goals (try go_returns)
  all_goals exact HR.out _ _ ⟨rfl, bbel⟩
 cases y
 ·have hok : ok = false := by
   have h1 := HU.out
   unfold lnkPick at h1
   rw [HZ.out, HY.out] at h1
   simp only [Bool.and_false, Bool.false_eq_true, if_false, Prod.mk.injEq] at h1
   exact h1.2.2.symm
  subst hok
  go_wp2_with fail
  refine (CN.out _).mono ?_
  rintro _ _ ⟨rfl, rfl⟩
  go_wp2_with (go_at_call 11; refine (L_loOkP _).mono ?_; rintro _ w9 ⟨rfl, h9⟩)
  all_goals (try go_returns)
  all_goals exact HR.out _ _ ⟨rfl, bbel⟩
 go_wp2_with fail
 refine (CN.out _).mono ?_
 rintro _ _ ⟨rfl, rfl⟩
 go_wp2_with fail
 refine (CC.out _ hB4).mono ?_
 rintro _ w5 ⟨⟨_, rfl, hrf⟩, h5⟩
 have hs5 := h5.size
 have hB5 : Below w1.heap.size w1 w5 := hB4.trans (h5.mono hB4.size)
 replace r0 := qaa h5 r0
 replace r1 := qaa h5 r1
 replace r2 := qaa h5 r2
 replace a0 := qaa h5 a0
 replace a1 := qaa h5 a1
 replace a2 := qaa h5 a2
 have hl5a : w1.heap.size < w5.heap.size := by omega
 have hl50 : w1.heap.size + 1 < w5.heap.size := by omega
 have hl51 : MA < w5.heap.size := by omega
 have hpos : 0 < rs.length := List.length_pos_iff.2 (by rw [← HRS.out]; exact (lnkLaid_parts HZ.out).1)
 obtain ⟨g, gc, rfl, hgl, hgc, hgm⟩ := refs_at2 hrf hpos
 have HRF := qhd hrf
 obtain ⟨n, hn⟩ : ∃ n, rs.length = n := ⟨_, rfl⟩
 have HN := qhd hn
 rw [hn] at hpos hgc ⊢
 have hgm' : gc ≤ 9223372036854775807 := by unfold maxLen at hgm; omega
 have hn9 : n ≤ 9223372036854775807 := by omega
 clear h5 hs5 hB4 hl40 hl41 hl4a hrf hn hgm
 go_wp2_with fail
 go_loopw [11] (fun zi wr => ∃ k : Nat, 1 ≤ k ∧ k ≤ n ∧ zi = .int .i64 k ∧ Below w5.heap.size w5 wr) (fun zi _ => n - (intOf zi).toNat)
 case atStart => exact ⟨1, Nat.le_refl _, by omega, rfl, Below.refl _ _⟩
 case round =>
  obtain ⟨k, hk1', hk, rfl, hb⟩ := hrel
  have hbs := hb.size
  have HBR := qhd (hB5.trans (hb.mono hB5.size))
  replace r0 := qaa hb r0
  replace r1 := qaa hb r1
  replace r2 := qaa hb r2
  replace a0 := qaa hb a0
  replace a1 := qaa hb a1
  replace a2 := qaa hb a2
  have hlra : w1.heap.size < wr.heap.size := by omega
  have hlr0 : w1.heap.size + 1 < wr.heap.size := by omega
  have hlr1 : MA < wr.heap.size := by omega
  have hgr : g < wr.heap.size := by omega
  by_cases hlt : k < n
  ·have hlt2 : (k : Int) < (n : Int) := by omega
   have hkc : (k : Int) ≤ (gc : Int) := by omega
   obtain ⟨⟨xk, xn⟩, hx⟩ : ∃ x, rs[k]? = some x := ⟨_, List.getElem?_eq_getElem (by have := HN.out; omega)⟩
   obtain ⟨q1, q2⟩ := (HRF.out.below hb).cell2 hx
   have HX := qhd hx
   have hxc : (lodChain pl ⟨k1, n1⟩)[k]? = some ⟨xk, xn⟩ := by rw [HRS.out]; exact hx
   have hxs := chain_small hn1 (List.mem_of_getElem? hxc)
   have hxn := (plain_tail hn1 hxc).1
   obtain ⟨⟨⟨bk, bn⟩, bt, th⟩, hbv⟩ : ∃ x, lnkPick pl ⟨xk, xn⟩ nm = x := ⟨_, rfl⟩
   have HBV := qhd hbv
   have CPX : Hid (∀ W, Below wr.heap.size wr W → Calls Tryz.prog 25 #[.agg #[.slice fa fl fc], .agg #[.int .i64 xk, .string xn], .string nm] W fun e w' => e = .returned (.tuple #[.agg #[.int .i64 bk, .string bn, .int .i64 bt], .bool th]) ∧ Below W.heap.size W w') := qhd fun W hW => by
    have h9 := CP.out W ⟨xk, xn⟩ hxn hxs (HBR.out.trans (hW.mono HBR.out.size))
    rw [hbv] at h9
    exact h9
   have HXC := qhd hxc
   clear hx hxc hbv
   go_wp2_with fail
   refine qau 13 (Below wr.heap.size wr) (rwG 11) (fun vs => pF vs wr.heap.size (.slice fa fl fc) g n gc k xk xn nm bk bn bt th) (fun _ _ => True) noDead (by kernel_rfl) (by decide) (by kernel_rfl) (Or.inl (by rfl)) (by kernel_rfl) ((Below.refl _ _).drew) ?hdep noDead_dead (fun _ => trivial) (fun _ _ _ _ _ _ _ _ => trivial) (fun _ i j u w1 w2 hne _ _ hg hF => pF_stays i j u w1 w2 hne hg hF) (fun j w _ => rw_rfl _ j w) ?_
   case hdep => exact pF_dep (fun o ho => by cases ho; exact ⟨⟨10, .data⟩, by simp, rfl, rfl⟩)
   refine qab (d := 72) rfl rfl (fun wx hC hI hd S0 hS => ?_) (fun v0 => ?_)
   ·have c0' := qaa hC r0
    have HSS := qhd hS; clear hS hd hI
    go_simp
    exact HSS.out _ _ hC (rw_rfl _ _ _) (by simp [pF])
   simp only [qnr]
   refine qab (d := 73) rfl rfl (fun wx hC hI hd S0 hS => ?_) (fun v1 => ?_)
   ·have HSS := qhd hS; clear hS hd hI
    go_simp
    exact HSS.out _ _ hC (rw_rfl _ _ _) (by simp [pF])
   simp only [qnr]
   refine qab (d := 74) rfl rfl (fun wx hC hI hd S0 hS => ?_) (fun v2 => ?_)
   ·have HSS := qhd hS; clear hS hd hI
    go_simp
    exact HSS.out _ _ hC (rw_rfl _ _ _) (by simp [pF])
   simp only [qnr]
   refine qab (d := 75) rfl rfl (fun wx hC hI hd S0 hS => ?_) (fun v3 => ?_)
   ·have d1 := hd ⟨1, .data⟩ (by simp) rfl v1 (by simp)
    simp only [pF] at d1
    subst d1
    have d2 := hd ⟨2, .data⟩ (by simp) rfl v2 (by simp)
    simp only [pF] at d2
    subst d2
    have HSS := qhd hS; clear hS hd hI
    go_simp
    exact HSS.out _ _ hC (rw_rfl _ _ _) (by simp [pF])
   simp only [qnr]
   refine qab (d := 76) rfl rfl (fun wx hC hI hd S0 hS => ?_) (fun v4 => ?_)
   ·have d3 := hd ⟨3, .data⟩ (by simp) rfl v3 (by simp)
    simp only [pF] at d3
    subst d3
    have c1' := qaa hC q1
    have c2' := qaa hC q2
    have HSS := qhd hS; clear hS hd hI
    go_simp
    exact HSS.out _ _ hC (rw_rfl _ _ _) (by simp [pF])
   simp only [qnr]
   refine qab (d := 77) rfl rfl (fun wx hC hI hd S0 hS => ?_) (fun v5 => ?_)
   ·have HSS := qhd hS; clear hS hd hI
    go_simp
    exact HSS.out _ _ hC (rw_rfl _ _ _) (by simp [pF])
   simp only [qnr]
   refine qab (d := 78) rfl rfl (fun wx hC hI hd S0 hS => ?_) (fun v6 => ?_)
   ·have d0 := hd ⟨0, .data⟩ (by simp) rfl v0 (by simp)
    simp only [pF] at d0
    subst d0
    have d4 := hd ⟨4, .data⟩ (by simp) rfl v4 (by simp)
    simp only [pF] at d4
    subst d4
    have d5 := hd ⟨5, .data⟩ (by simp) rfl v5 (by simp)
    simp only [pF] at d5
    subst d5
    have HSS := qhd hS; clear hS hd hI
    go_simp
    refine (CPX.out _ hC).mono ?_
    rintro _ w' ⟨rfl, hX⟩
    exact HSS.out _ _ (hC.trans (hX.mono hC.size)) (rw_of (by simp) hX) (by simp [pF])
   simp only [qnr]
   refine qab (d := 71) rfl rfl (fun wx hC hI hd S0 hS => ?_) (fun v7 => ?_)
   ·have d6 := hd ⟨6, .data⟩ (by simp) rfl v6 (by simp)
    simp only [pF] at d6
    subst d6
    have HSS := qhd hS; clear hS hd hI
    go_simp
    exact HSS.out _ _ hC (rw_rfl _ _ _) (by simp [pF])
   simp only [qnr]
   refine qab (d := 79) rfl rfl (fun wx hC hI hd S0 hS => ?_) (fun v8 => ?_)
   ·have d7 := hd ⟨7, .data⟩ (by simp) rfl v7 (by simp)
    simp only [pF] at d7
    subst d7
    have HSS := qhd hS; clear hS hd hI
    go_simp
    exact HSS.out _ _ hC (rw_rfl _ _ _) (by simp [pF])
   simp only [qnr]
   refine qab (d := 80) rfl rfl (fun wx hC hI hd S0 hS => ?_) (fun v9 => ?_)
   ·have d7 := hd ⟨7, .data⟩ (by simp) rfl v7 (by simp)
    simp only [pF] at d7
    subst d7
    have HSS := qhd hS; clear hS hd hI
    go_simp
    exact HSS.out _ _ hC (rw_rfl _ _ _) (by simp [pF])
   simp only [qnr]
   refine qab (d := 12) rfl rfl (fun wx hC hI hd S0 hS => ?_) (fun v10 => ?_)
   ·have hzx := hC.size
    have HSS := qhd hS; clear hS hd hI
    go_simp
    refine HSS.out _ _ (hC.alloc hzx _) (rw_of (by simp) ((Below.refl _ _).alloc (Nat.le_refl _) _)) ?_
    (simp only [qls, Nat.reduceAdd, pF])
    exact ⟨_, rfl, hzx, by simp, there_of (heap_alloc_new wx _) rfl⟩
   simp only [qnr]
   refine wpRelyE_cons0 rfl rfl (fun wx hC hI hd S0 hS => ?_) (fun v11 => ?_)
   ·have d10 := hd ⟨10, .data⟩ (by simp) rfl v10 (by simp)
    simp only [pF] at d10
    obtain ⟨e10, d10, he10, hl10, ht10⟩ := d10
    have d8 := hd ⟨8, .data⟩ (by simp) rfl v8 (by simp)
    simp only [pF] at d8
    subst d8
    subst d10
    have HSS := qhd hS; clear hS hd hI
    refine wp_store_rowO 68 (.tmp 12) (.tmp 79) rfl e10 ([.int .i64 bk, .string bn, .int .i64 bt]) (by rfl) (by rfl) (by simpa using ht10) HK3.out (by intro v hv; simp only [List.mem_cons, List.not_mem_nil, or_false] at hv; rcases hv with rfl | rfl | rfl <;> first | rfl | assumption) (fun w' hr1 hr2 hr3 hr4 => ⟨put_defers' _ _ _, ?_⟩)
    refine HSS.out _ _ (hC.trans (hr3.below he10)) (rw_store (Nat.le_of_eq hr3.size) hr4) ?_
    (simp only [qls, Nat.reduceAdd, pF])
    exact ⟨e10, rfl, he10, by rw [← hr3.size]; exact hl10, hr1, hr2⟩
   simp only [qnr]
   refine qab (d := 13) rfl rfl (fun wx hC hI hd S0 hS => ?_) (fun v12 => ?_)
   ·have d9 := hd ⟨9, .data⟩ (by simp) rfl v9 (by simp)
    simp only [pF] at d9
    subst d9
    have HSS := qhd hS; clear hS hd hI
    go_simp
    exact HSS.out _ _ hC (rw_rfl _ _ _) (by simp [pF])
   simp only [qnr]
   intro wF hC hF
   have f11 := hF 11 v11 (by simp) (fun _ _ => rfl)
   have f12 := hF 12 v12 (by simp) (fun _ _ => rfl)
   simp only [pF, getv, List.nil_append, List.cons_append, List.getD_cons_succ, List.getD_cons_zero] at f11 f12
   obtain ⟨MB, f11, hMB1, hMB2, hMB3, _⟩ := f11
   subst f11
   subst f12
   have hBF : Below w5.heap.size w5 wF := hb.trans (hC.mono hb.size)
   have hsF := hC.size
   have HBF := qhd (HBR.out.trans (hC.mono HBR.out.size))
   have b0 : wF.cell? ⟨MB, 0, none⟩ = some (.int .i64 bk) := by simpa using hMB3 0 _ rfl
   have b1 : wF.cell? ⟨MB, 1, none⟩ = some (.string bn) := by simpa using hMB3 1 _ rfl
   have b2 : wF.cell? ⟨MB, 2, none⟩ = some (.int .i64 bt) := by simpa using hMB3 2 _ rfl
   replace r0 := qaa hC r0
   replace a0 := qaa hC a0
   replace a1 := qaa hC a1
   replace a2 := qaa hC a2
   have hlFa : w1.heap.size < wF.heap.size := by omega
   have hlF1 : MA < wF.heap.size := by omega
   clear hF hC hMB3 r1 r2 q1 q2 hlra hlr0 hlr1 hgr hb
   simp only [List.drop_succ_cons, List.drop_zero]
   cases th
   ·go_wp2
    go_roundw
    case measure => simp [intOf]; omega
    case rel => exact ⟨k + 1, by omega, by omega, by go_num, hBF⟩
   obtain ⟨a, s, t, m, nn, ha, rfl, him, hin, e1, e2, ag, ags⟩ := plain_pick hn1 HZ.out HY.out HXC.out HBV.out
   have hpq := HU.out.symm.trans ha
   simp only [Prod.mk.injEq] at hpq
   obtain ⟨rfl, rfl, rfl⟩ := hpq
   dsimp only at ag ags
   obtain ⟨_, ⟨xa1, xl1, xc1, xa2, xl2, xc2, rfl, _, sA⟩, LAX⟩ := LO.out ⟨ak, an⟩
   obtain ⟨_, ⟨ya1, yl1, yc1, ya2, yl2, yc2, rfl, _, sB⟩, LBX⟩ := LO.out ⟨bk, bn⟩
   obtain ⟨mb, mo, ml, mc, va, vn, vc, u2, u3, ee, hsl, hml, hmbl, sArg, hretn, ho2, ho3, hrA⟩ := mth_row sA him
   cases ee
   obtain ⟨nb, no, nl, nc, va', vn', vc', u2', u3', ee, hsl', hml', hnbl, sArg', _, ho2', ho3', hrB⟩ := mth_row sB hin
   cases ee
   rw [← e1] at sArg'
   rw [← e2] at hrB
   obtain ⟨hvn, hvc, hvm⟩ := knd_len sArg
   have HVN := qhd hvn
   have HSA := qhd sArg
   have HSB := qhd sArg'
   have HAGS := qhd ags
   have HRGA := qhd (range_below hrA HBF.out hmbl)
   have HRGB := qhd hrB
   obtain ⟨nA, hnA⟩ : ∃ x, x = (loOfP pl ⟨ak, an⟩).fName := ⟨_, rfl⟩
   obtain ⟨pA, hpA⟩ : ∃ x, x = (loOfP pl ⟨ak, an⟩).fSuper := ⟨_, rfl⟩
   obtain ⟨nB, hnB⟩ : ∃ x, x = (loOfP pl ⟨bk, bn⟩).fName := ⟨_, rfl⟩
   obtain ⟨pB, hpB⟩ : ∃ x, x = (loOfP pl ⟨bk, bn⟩).fSuper := ⟨_, rfl⟩
   rw [← hnA, ← hpA] at LAX
   rw [← hnB, ← hpB] at LBX
   have LA := qhd LAX
   have LB := qhd LBX
   have CAR : Hid (∀ W, Below w1.heap.size w1 W → Calls Tryz.prog 29 #[.agg #[.slice fa fl fc], .int .i64 ak, .int .i64 bk, .agg #[.int .i64 m.fRet.fKind, .string m.fRet.fName]] W fun e w' => e = .returned (.bool true) ∧ Below W.heap.size W w') := qhd fun W hW => by have := CA.out W ak bk m.fRet hretn hW; rw [ag] at this; exact this
   have FLDLA : ∀ W, (Instr.field 29 (.agg #[.string nA, .string pA, .slice xa1 xl1 xc1, .slice (some ⟨mb, mo, none⟩) xl2 xc2]) 3).run Tryz.prog W = .ok (.slice (some ⟨mb, mo, none⟩) xl2 xc2) W := fun _ => by kernel_rfl
   have FLDLB : ∀ W, (Instr.field 29 (.agg #[.string nB, .string pB, .slice ya1 yl1 yc1, .slice (some ⟨nb, no, none⟩) yl2 yc2]) 3).run Tryz.prog W = .ok (.slice (some ⟨nb, no, none⟩) yl2 yc2) W := fun _ => by kernel_rfl
   have hsi : (s : Int) < (xl2 : Int) := by omega
   have hti : (t : Int) < (yl2 : Int) := by omega
   have hmb : mb < wF.heap.size := Nat.lt_of_lt_of_le hmbl HBF.out.size
   clear sA sB LAX LBX sArg sArg' hrA hrB him hin ha e1 e2 ag ags hnA hpA hnB hpB hvn hsl hsl'
   have HBX := HBF
   have HRG := HRGA
   have z1 := a0
   have z2 := a1
   have z3 := a2
   go_wp2_with fail
   refine qau 11 (Below wF.heap.size wF) (rwG 10) (fun vs => mF vs wF.heap.size MA (.slice fa fl fc) ak an (.agg #[.string nA, .string pA, .slice xa1 xl1 xc1, .slice (some ⟨mb, mo, none⟩) xl2 xc2]) mb mo xl2 xc2 s [.string m.fName, .slice va vn vc, .int .i64 m.fRet.fKind, .string m.fRet.fName, .int .i64 m.fLocals, .int .i64 m.fStack, u2, u3]) (fun _ _ => True) noDead (by kernel_rfl) (by decide) (by kernel_rfl) (Or.inl (by rfl)) (by kernel_rfl) ((Below.refl _ _).drew) ?hdep noDead_dead (fun _ => trivial) (fun _ _ _ _ _ _ _ _ => trivial) (fun _ i j u w1 w2 hne _ _ hg hF => mF_stays i j u w1 w2 hne hg hF) (fun j w _ => rw_rfl _ j w) ?_
   case hdep => exact mF_dep (fun o ho => by cases ho; exact ⟨⟨9, .data⟩, by simp, rfl, rfl⟩)
   refine qab (d := 83) rfl rfl (fun wx hC hI hd S0 hS => ?_) (fun v0 => ?_)
   ·have c0' := qaa hC r0
    have HSS := qhd hS; clear hS hd hI
    go_simp
    exact HSS.out _ _ hC (rw_rfl _ _ _) (by simp [mF])
   simp only [qnr]
   refine qab (d := 84) rfl rfl (fun wx hC hI hd S0 hS => ?_) (fun v1 => ?_)
   ·have HSS := qhd hS; clear hS hd hI
    go_simp
    exact HSS.out _ _ hC (rw_rfl _ _ _) (by simp [mF])
   simp only [qnr]
   refine qab (d := 85) rfl rfl (fun wx hC hI hd S0 hS => ?_) (fun v2 => ?_)
   ·have d1 := hd ⟨1, .data⟩ (by simp) rfl v1 (by simp)
    simp only [mF] at d1
    subst d1
    have c1' := qaa hC z1
    have c2' := qaa hC z2
    have HSS := qhd hS; clear hS hd hI
    go_simp
    exact HSS.out _ _ hC (rw_rfl _ _ _) (by simp [mF])
   simp only [qnr]
   refine qab (d := 86) rfl rfl (fun wx hC hI hd S0 hS => ?_) (fun v3 => ?_)
   ·have d0 := hd ⟨0, .data⟩ (by simp) rfl v0 (by simp)
    simp only [mF] at d0
    subst d0
    have d2 := hd ⟨2, .data⟩ (by simp) rfl v2 (by simp)
    simp only [mF] at d2
    subst d2
    have HSS := qhd hS; clear hS hd hI
    go_simp
    refine (LA.out _ (HBX.out.trans (hC.mono HBX.out.size))).mono ?_
    rintro _ w' ⟨rfl, hX⟩
    exact HSS.out _ _ (hC.trans (hX.mono hC.size)) (rw_of (by simp) hX) (by simp [mF])
   simp only [qnr]
   refine qab (d := 87) rfl rfl (fun wx hC hI hd S0 hS => ?_) (fun v4 => ?_)
   ·have d3 := hd ⟨3, .data⟩ (by simp) rfl v3 (by simp)
    simp only [mF] at d3
    subst d3
    have HSS := qhd hS; clear hS hd hI
    go_simp
    (try simp only [FLDLA, Result.andThen])
    exact HSS.out _ _ hC (rw_rfl _ _ _) (by simp [mF])
   simp only [qnr]
   refine qab (d := 88) rfl rfl (fun wx hC hI hd S0 hS => ?_) (fun v5 => ?_)
   ·have HSS := qhd hS; clear hS hd hI
    go_simp
    exact HSS.out _ _ hC (rw_rfl _ _ _) (by simp [mF])
   simp only [qnr]
   refine qab (d := 89) rfl rfl (fun wx hC hI hd S0 hS => ?_) (fun v6 => ?_)
   ·have d5 := hd ⟨5, .data⟩ (by simp) rfl v5 (by simp)
    simp only [mF] at d5
    subst d5
    have c3' := qaa hC z3
    have HSS := qhd hS; clear hS hd hI
    go_simp
    exact HSS.out _ _ hC (rw_rfl _ _ _) (by simp [mF])
   simp only [qnr]
   refine qab (d := 90) rfl rfl (fun wx hC hI hd S0 hS => ?_) (fun v7 => ?_)
   ·have d4 := hd ⟨4, .data⟩ (by simp) rfl v4 (by simp)
    simp only [mF] at d4
    subst d4
    have d6 := hd ⟨6, .data⟩ (by simp) rfl v6 (by simp)
    simp only [mF] at d6
    subst d6
    have HSS := qhd hS; clear hS hd hI
    go_simp
    exact HSS.out _ _ hC (rw_rfl _ _ _) (by simp [mF])
   simp only [qnr]
   refine qab (d := 91) rfl rfl (fun wx hC hI hd S0 hS => ?_) (fun v8 => ?_)
   ·have d7 := hd ⟨7, .data⟩ (by simp) rfl v7 (by simp)
    simp only [mF] at d7
    subst d7
    have HSS := qhd hS; clear hS hd hI
    refine wp_loadAt rfl rfl (run_loadAt_mid wx mb (mo + s * 8) 76 _ _ (range_below HRG.out hC hmb) Tryz.underlying76 rfl HK8.out) ⟨put_defers' _ _ _, ?_⟩
    rw [qag (by simp)]
    exact HSS.out _ _ hC (rw_rfl _ _ _) (by simp [mF])
   simp only [qnr]
   refine qab (d := 14) rfl rfl (fun wx hC hI hd S0 hS => ?_) (fun v9 => ?_)
   ·have hzx := hC.size
    have HSS := qhd hS; clear hS hd hI
    go_simp
    refine HSS.out _ _ (hC.alloc hzx _) (rw_of (by simp) ((Below.refl _ _).alloc (Nat.le_refl _) _)) ?_
    (simp only [qls, Nat.reduceAdd, mF])
    exact ⟨_, rfl, hzx, by simp, there_of (heap_alloc_new wx _) rfl⟩
   simp only [qnr]
   refine wpRelyE_cons0 rfl rfl (fun wx hC hI hd S0 hS => ?_) (fun v10 => ?_)
   ·have d9 := hd ⟨9, .data⟩ (by simp) rfl v9 (by simp)
    simp only [mF] at d9
    obtain ⟨e9, d9, he9, hl9, ht9⟩ := d9
    have d8 := hd ⟨8, .data⟩ (by simp) rfl v8 (by simp)
    simp only [mF] at d8
    subst d8
    subst d9
    have HSS := qhd hS; clear hS hd hI
    refine wp_store_rowO 76 (.tmp 14) (.tmp 91) rfl e9 [.string m.fName, .slice va vn vc, .int .i64 m.fRet.fKind, .string m.fRet.fName, .int .i64 m.fLocals, .int .i64 m.fStack, u2, u3] (by rfl) (by rfl) (by simpa using ht9) HK8.out (by intro v hv; simp only [List.mem_cons, List.not_mem_nil, or_false] at hv; rcases hv with rfl | rfl | rfl | rfl | rfl | rfl | rfl | rfl <;> first | rfl | assumption) (fun w' hr1 hr2 hr3 hr4 => ⟨put_defers' _ _ _, ?_⟩)
    refine HSS.out _ _ (hC.trans (hr3.below he9)) (rw_store (Nat.le_of_eq hr3.size) hr4) ?_
    (simp only [qls, Nat.reduceAdd, mF])
    exact ⟨e9, rfl, he9, by rw [← hr3.size]; exact hl9, hr1, hr2⟩
   simp only [qnr]
   intro wG hC hF
   have f10 := hF 10 v10 (by simp) (fun _ _ => rfl)
   simp only [mF, getv, List.nil_append, List.cons_append, List.getD_cons_succ, List.getD_cons_zero] at f10
   obtain ⟨EA, f10, hEA1, hEA2, hEA3, _⟩ := f10
   subst f10
   have hBG : Below w5.heap.size w5 wG := hBF.trans (hC.mono hBF.size)
   have hsG := hC.size
   replace r0 := qaa hC r0
   replace a0 := qaa hC a0
   replace b0 := qaa hC b0
   replace b1 := qaa hC b1
   replace b2 := qaa hC b2
   have A1 : wG.cell? ⟨EA, 1, none⟩ = some (.slice va vn vc) := by simpa using hEA3 1 _ rfl
   have A2 : wG.cell? ⟨EA, 2, none⟩ = some (.int .i64 m.fRet.fKind) := by simpa using hEA3 2 _ rfl
   have A3 : wG.cell? ⟨EA, 3, none⟩ = some (.string m.fRet.fName) := by simpa using hEA3 3 _ rfl
   have HBG := qhd (HBF.out.trans (hC.mono HBF.out.size))
   have HRGB2 := qhd (range_below HRGB.out HBG.out hnbl)
   have hnb : nb < wG.heap.size := Nat.lt_of_lt_of_le hnbl HBG.out.size
   have hlGa : w1.heap.size < wG.heap.size := by omega
   have hlG1 : MA < wG.heap.size := by omega
   have hlG2 : MB < wG.heap.size := by omega
   clear hF hC hEA3 z1 z2 z3 a1 a2 HBX HRG hBF hlFa hlF1 HRGA HRGB hmb
   have HBX := HBG
   have HRG := HRGB2
   have hmb := hnb
   have z1 := b0
   have z2 := b1
   have z3 := b2
   simp only [List.drop_succ_cons, List.drop_zero]
   go_wp2_with fail
   refine qau 11 (Below wG.heap.size wG) (rwG 10) (fun vs => mF vs wG.heap.size MB (.slice fa fl fc) bk bn (.agg #[.string nB, .string pB, .slice ya1 yl1 yc1, .slice (some ⟨nb, no, none⟩) yl2 yc2]) nb no yl2 yc2 t [.string nn.fName, .slice va' vn' vc', .int .i64 m.fRet.fKind, .string m.fRet.fName, .int .i64 nn.fLocals, .int .i64 nn.fStack, u2', u3']) (fun _ _ => True) noDead (by kernel_rfl) (by decide) (by kernel_rfl) (Or.inl (by rfl)) (by kernel_rfl) ((Below.refl _ _).drew) ?hdep noDead_dead (fun _ => trivial) (fun _ _ _ _ _ _ _ _ => trivial) (fun _ i j u w1 w2 hne _ _ hg hF => mF_stays i j u w1 w2 hne hg hF) (fun j w _ => rw_rfl _ j w) ?_
   case hdep => exact mF_dep (fun o ho => by cases ho; exact ⟨⟨9, .data⟩, by simp, rfl, rfl⟩)
   refine qab (d := 92) rfl rfl (fun wx hC hI hd S0 hS => ?_) (fun y0 => ?_)
   ·have c0' := qaa hC r0
    have HSS := qhd hS; clear hS hd hI
    go_simp
    exact HSS.out _ _ hC (rw_rfl _ _ _) (by simp [mF])
   simp only [qnr]
   refine qab (d := 93) rfl rfl (fun wx hC hI hd S0 hS => ?_) (fun y1 => ?_)
   ·have HSS := qhd hS; clear hS hd hI
    go_simp
    exact HSS.out _ _ hC (rw_rfl _ _ _) (by simp [mF])
   simp only [qnr]
   refine qab (d := 94) rfl rfl (fun wx hC hI hd S0 hS => ?_) (fun y2 => ?_)
   ·have d1 := hd ⟨1, .data⟩ (by simp) rfl y1 (by simp)
    simp only [mF] at d1
    subst d1
    have c1' := qaa hC z1
    have c2' := qaa hC z2
    have HSS := qhd hS; clear hS hd hI
    go_simp
    exact HSS.out _ _ hC (rw_rfl _ _ _) (by simp [mF])
   simp only [qnr]
   refine qab (d := 95) rfl rfl (fun wx hC hI hd S0 hS => ?_) (fun y3 => ?_)
   ·have d0 := hd ⟨0, .data⟩ (by simp) rfl y0 (by simp)
    simp only [mF] at d0
    subst d0
    have d2 := hd ⟨2, .data⟩ (by simp) rfl y2 (by simp)
    simp only [mF] at d2
    subst d2
    have HSS := qhd hS; clear hS hd hI
    go_simp
    refine (LB.out _ (HBX.out.trans (hC.mono HBX.out.size))).mono ?_
    rintro _ w' ⟨rfl, hX⟩
    exact HSS.out _ _ (hC.trans (hX.mono hC.size)) (rw_of (by simp) hX) (by simp [mF])
   simp only [qnr]
   refine qab (d := 96) rfl rfl (fun wx hC hI hd S0 hS => ?_) (fun y4 => ?_)
   ·have d3 := hd ⟨3, .data⟩ (by simp) rfl y3 (by simp)
    simp only [mF] at d3
    subst d3
    have HSS := qhd hS; clear hS hd hI
    go_simp
    (try simp only [FLDLB, Result.andThen])
    exact HSS.out _ _ hC (rw_rfl _ _ _) (by simp [mF])
   simp only [qnr]
   refine qab (d := 97) rfl rfl (fun wx hC hI hd S0 hS => ?_) (fun y5 => ?_)
   ·have HSS := qhd hS; clear hS hd hI
    go_simp
    exact HSS.out _ _ hC (rw_rfl _ _ _) (by simp [mF])
   simp only [qnr]
   refine qab (d := 98) rfl rfl (fun wx hC hI hd S0 hS => ?_) (fun y6 => ?_)
   ·have d5 := hd ⟨5, .data⟩ (by simp) rfl y5 (by simp)
    simp only [mF] at d5
    subst d5
    have c3' := qaa hC z3
    have HSS := qhd hS; clear hS hd hI
    go_simp
    exact HSS.out _ _ hC (rw_rfl _ _ _) (by simp [mF])
   simp only [qnr]
   refine qab (d := 99) rfl rfl (fun wx hC hI hd S0 hS => ?_) (fun y7 => ?_)
   ·have d4 := hd ⟨4, .data⟩ (by simp) rfl y4 (by simp)
    simp only [mF] at d4
    subst d4
    have d6 := hd ⟨6, .data⟩ (by simp) rfl y6 (by simp)
    simp only [mF] at d6
    subst d6
    have HSS := qhd hS; clear hS hd hI
    go_simp
    exact HSS.out _ _ hC (rw_rfl _ _ _) (by simp [mF])
   simp only [qnr]
   refine qab (d := 100) rfl rfl (fun wx hC hI hd S0 hS => ?_) (fun y8 => ?_)
   ·have d7 := hd ⟨7, .data⟩ (by simp) rfl y7 (by simp)
    simp only [mF] at d7
    subst d7
    have HSS := qhd hS; clear hS hd hI
    refine wp_loadAt rfl rfl (run_loadAt_mid wx nb (no + t * 8) 76 _ _ (range_below HRG.out hC hmb) Tryz.underlying76 rfl HK8.out) ⟨put_defers' _ _ _, ?_⟩
    rw [qag (by simp)]
    exact HSS.out _ _ hC (rw_rfl _ _ _) (by simp [mF])
   simp only [qnr]
   refine qab (d := 15) rfl rfl (fun wx hC hI hd S0 hS => ?_) (fun y9 => ?_)
   ·have hzx := hC.size
    have HSS := qhd hS; clear hS hd hI
    go_simp
    refine HSS.out _ _ (hC.alloc hzx _) (rw_of (by simp) ((Below.refl _ _).alloc (Nat.le_refl _) _)) ?_
    (simp only [qls, Nat.reduceAdd, mF])
    exact ⟨_, rfl, hzx, by simp, there_of (heap_alloc_new wx _) rfl⟩
   simp only [qnr]
   refine wpRelyE_cons0 rfl rfl (fun wx hC hI hd S0 hS => ?_) (fun y10 => ?_)
   ·have d9 := hd ⟨9, .data⟩ (by simp) rfl y9 (by simp)
    simp only [mF] at d9
    obtain ⟨e9, d9, he9, hl9, ht9⟩ := d9
    have d8 := hd ⟨8, .data⟩ (by simp) rfl y8 (by simp)
    simp only [mF] at d8
    subst d8
    subst d9
    have HSS := qhd hS; clear hS hd hI
    refine wp_store_rowO 76 (.tmp 15) (.tmp 100) rfl e9 [.string nn.fName, .slice va' vn' vc', .int .i64 m.fRet.fKind, .string m.fRet.fName, .int .i64 nn.fLocals, .int .i64 nn.fStack, u2', u3'] (by rfl) (by rfl) (by simpa using ht9) HK8.out (by intro v hv; simp only [List.mem_cons, List.not_mem_nil, or_false] at hv; rcases hv with rfl | rfl | rfl | rfl | rfl | rfl | rfl | rfl <;> first | rfl | assumption) (fun w' hr1 hr2 hr3 hr4 => ⟨put_defers' _ _ _, ?_⟩)
    refine HSS.out _ _ (hC.trans (hr3.below he9)) (rw_store (Nat.le_of_eq hr3.size) hr4) ?_
    (simp only [qls, Nat.reduceAdd, mF])
    exact ⟨e9, rfl, he9, by rw [← hr3.size]; exact hl9, hr1, hr2⟩
   simp only [qnr]
   intro wH hC hF
   have f10 := hF 10 y10 (by simp) (fun _ _ => rfl)
   simp only [mF, getv, List.nil_append, List.cons_append, List.getD_cons_succ, List.getD_cons_zero] at f10
   obtain ⟨EB, f10, hEB1, hEB2, hEB3, _⟩ := f10
   subst f10
   have hBH : Below w5.heap.size w5 wH := hBG.trans (hC.mono hBG.size)
   have hsH := hC.size
   replace r0 := qaa hC r0
   replace a0 := qaa hC a0
   replace b0 := qaa hC b0
   replace A1 := qaa hC A1
   replace A2 := qaa hC A2
   replace A3 := qaa hC A3
   have B1 : wH.cell? ⟨EB, 1, none⟩ = some (.slice va' vn' vc') := by simpa using hEB3 1 _ rfl
   have B2 : wH.cell? ⟨EB, 2, none⟩ = some (.int .i64 m.fRet.fKind) := by simpa using hEB3 2 _ rfl
   have B3 : wH.cell? ⟨EB, 3, none⟩ = some (.string m.fRet.fName) := by simpa using hEB3 3 _ rfl
   have HBH := qhd (HBG.out.trans (hC.mono HBG.out.size))
   have hlHa : w1.heap.size < wH.heap.size := by omega
   have hlH1 : MA < wH.heap.size := by omega
   have hlH2 : MB < wH.heap.size := by omega
   have hlH3 : EA < wH.heap.size := by omega
   clear hF hC hEB3 z1 z2 z3 b1 b2 HBX HRG hBG hmb HRGB2 hlGa hlG1 hlG2
   simp only [List.drop_succ_cons, List.drop_zero]
   go_wp2_with fail
   refine (L_loKinds _ _ m.fArgs wH (HSA.out.stays qan (Keeps.of_below' HBH.out (Nat.le_refl _))) (HSB.out.stays qan (Keeps.of_below' HBH.out (Nat.le_refl _)))).mono ?_
   rintro _ wI ⟨rfl, hI⟩
   have hsI := hI.size
   have hBI : Below w5.heap.size w5 wI := hBH.trans (hI.mono hBH.size)
   have HBI := qhd (HBH.out.trans (hI.mono HBH.out.size))
   replace r0 := qaa hI r0
   replace a0 := qaa hI a0
   replace b0 := qaa hI b0
   replace A1 := qaa hI A1
   replace A2 := qaa hI A2
   replace A3 := qaa hI A3
   replace B2 := qaa hI B2
   replace B3 := qaa hI B3
   have hlIa : w1.heap.size < wI.heap.size := by omega
   have hlI1 : MA < wI.heap.size := by omega
   have hlI2 : MB < wI.heap.size := by omega
   have hlI3 : EA < wI.heap.size := by omega
   have hlI4 : EB < wI.heap.size := by omega
   clear hI B1 hBH hlHa hlH1 hlH2 hlH3
   go_wp2_with fail
   refine (CAR.out _ HBI.out).mono ?_
   rintro _ wK ⟨rfl, hK⟩
   have hsK := hK.size
   have hBK : Below w5.heap.size w5 wK := hBI.trans (hK.mono hBI.size)
   have HBK := qhd (HBI.out.trans (hK.mono HBI.out.size))
   replace r0 := qaa hK r0
   replace a0 := qaa hK a0
   replace b0 := qaa hK b0
   replace A1 := qaa hK A1
   have hlKa : w1.heap.size < wK.heap.size := by omega
   have hlK1 : MA < wK.heap.size := by omega
   have hlK2 : MB < wK.heap.size := by omega
   have hlK3 : EA < wK.heap.size := by omega
   clear hK A2 A3 B2 B3 hBI hlIa hlI1 hlI2 hlI3 hlI4
   go_wp2_with fail
   go_loopw [16] (fun zi wr => ∃ j : Nat, j ≤ vn ∧ zi = .int .i64 j ∧ Below wK.heap.size wK wr) (fun zi _ => vn - (intOf zi).toNat)
   case atStart => exact ⟨0, Nat.zero_le _, rfl, Below.refl _ _⟩
   case round =>
    obtain ⟨j, hj, rfl, hbt⟩ := hrel
    have hst := hbt.size
    replace r0 := qaa hbt r0
    replace a0 := qaa hbt a0
    replace b0 := qaa hbt b0
    replace A1 := qaa hbt A1
    have HBX := qhd (HBK.out.trans (hbt.mono HBK.out.size))
    have hlta : w1.heap.size < wr.heap.size := by omega
    have hlt1 : MA < wr.heap.size := by omega
    have hltB : MB < wr.heap.size := by omega
    have hlt3 : EA < wr.heap.size := by omega
    have hBT : Below w5.heap.size w5 wr := hBK.trans (hbt.mono hBK.size)
    by_cases hjt : j < vn
    ·have hjt2 : (j : Int) < (vn : Int) := by omega
     obtain ⟨kd, hkd⟩ : ∃ x, m.fArgs[j]? = some x := ⟨_, List.getElem?_eq_getElem (by rw [HVN.out]; exact hjt)⟩
     obtain ⟨vb, vo, ev, hvb, hkn, z4, z5⟩ := knd_row (HSA.out.stays qan (Keeps.of_below' HBX.out (Nat.le_refl _))) hkd
     subst ev
     have hag := HAGS.out kd (List.mem_of_getElem? hkd)
     have CAX : Hid (∀ W, Below w1.heap.size w1 W → Calls Tryz.prog 29 #[.agg #[.slice fa fl fc], .int .i64 ak, .int .i64 bk, .agg #[.int .i64 kd.fKind, .string kd.fName]] W fun e w' => e = .returned (.bool true) ∧ Below W.heap.size W w') := qhd fun W hW => by have := CA.out W ak bk kd hkn hW; rw [hag] at this; exact this
     have z1 := a0
     have z2 := b0
     have z3 := A1
     clear hkd hag hBT
     go_wp2_with fail
     refine qau 14 (Below wr.heap.size wr) (fun _ w1 w2 => Below w1.heap.size w1 w2) (fun _ => nF (.slice fa fl fc) MA MB EA ak bk vb vo vn vc j kd.fKind kd.fName) (fun _ _ => True) noDead (by kernel_rfl) (by decide) (by kernel_rfl) (Or.inl (by rfl)) (by kernel_rfl) ((Below.refl _ _).drew) (fun _ _ _ _ _ _ _ _ _ h => h) noDead_dead (fun _ => trivial) (fun _ _ _ _ _ _ _ _ => trivial) (fun _ i j u w1 w2 hne _ _ hg hF => nF_stays i j u w1 w2 hne hg hF) (fun _ _ _ => Below.refl _ _) ?_
     refine qab (d := 138) rfl rfl (fun wx hC hI hd S0 hS => ?_) (fun x0 => ?_)
     ·have c0' := qaa hC r0
      have HSS := qhd hS; clear hS hd hI
      go_simp
      exact HSS.out _ _ hC (Below.refl _ _) (by simp [nF])
     simp only [qnr]
     refine qab (d := 139) rfl rfl (fun wx hC hI hd S0 hS => ?_) (fun x1 => ?_)
     ·have HSS := qhd hS; clear hS hd hI
      go_simp
      exact HSS.out _ _ hC (Below.refl _ _) (by simp [nF])
     simp only [qnr]
     refine qab (d := 140) rfl rfl (fun wx hC hI hd S0 hS => ?_) (fun x2 => ?_)
     ·have d1 := hd ⟨1, .data⟩ (by simp) rfl x1 (by simp)
      simp only [nF] at d1
      subst d1
      have HSS := qhd hS; clear hS hd hI
      go_simp
      exact HSS.out _ _ hC (Below.refl _ _) (by simp [nF])
     simp only [qnr]
     refine qab (d := 141) rfl rfl (fun wx hC hI hd S0 hS => ?_) (fun x3 => ?_)
     ·have d2 := hd ⟨2, .data⟩ (by simp) rfl x2 (by simp)
      simp only [nF] at d2
      subst d2
      have c1' := qaa hC z1
      have HSS := qhd hS; clear hS hd hI
      go_simp
      exact HSS.out _ _ hC (Below.refl _ _) (by simp [nF])
     simp only [qnr]
     refine qab (d := 142) rfl rfl (fun wx hC hI hd S0 hS => ?_) (fun x4 => ?_)
     ·have HSS := qhd hS; clear hS hd hI
      go_simp
      exact HSS.out _ _ hC (Below.refl _ _) (by simp [nF])
     simp only [qnr]
     refine qab (d := 143) rfl rfl (fun wx hC hI hd S0 hS => ?_) (fun x5 => ?_)
     ·have d4 := hd ⟨4, .data⟩ (by simp) rfl x4 (by simp)
      simp only [nF] at d4
      subst d4
      have HSS := qhd hS; clear hS hd hI
      go_simp
      exact HSS.out _ _ hC (Below.refl _ _) (by simp [nF])
     simp only [qnr]
     refine qab (d := 144) rfl rfl (fun wx hC hI hd S0 hS => ?_) (fun x6 => ?_)
     ·have d5 := hd ⟨5, .data⟩ (by simp) rfl x5 (by simp)
      simp only [nF] at d5
      subst d5
      have c2' := qaa hC z2
      have HSS := qhd hS; clear hS hd hI
      go_simp
      exact HSS.out _ _ hC (Below.refl _ _) (by simp [nF])
     simp only [qnr]
     refine qab (d := 145) rfl rfl (fun wx hC hI hd S0 hS => ?_) (fun x7 => ?_)
     ·have HSS := qhd hS; clear hS hd hI
      go_simp
      exact HSS.out _ _ hC (Below.refl _ _) (by simp [nF])
     simp only [qnr]
     refine qab (d := 146) rfl rfl (fun wx hC hI hd S0 hS => ?_) (fun x8 => ?_)
     ·have d7 := hd ⟨7, .data⟩ (by simp) rfl x7 (by simp)
      simp only [nF] at d7
      subst d7
      have c3' := qaa hC z3
      have HSS := qhd hS; clear hS hd hI
      go_simp
      exact HSS.out _ _ hC (Below.refl _ _) (by simp [nF])
     simp only [qnr]
     refine qab (d := 147) rfl rfl (fun wx hC hI hd S0 hS => ?_) (fun x9 => ?_)
     ·have HSS := qhd hS; clear hS hd hI
      go_simp
      exact HSS.out _ _ hC (Below.refl _ _) (by simp [nF])
     simp only [qnr]
     refine qab (d := 148) rfl rfl (fun wx hC hI hd S0 hS => ?_) (fun x10 => ?_)
     ·have d8 := hd ⟨8, .data⟩ (by simp) rfl x8 (by simp)
      simp only [nF] at d8
      subst d8
      have d9 := hd ⟨9, .data⟩ (by simp) rfl x9 (by simp)
      simp only [nF] at d9
      subst d9
      have HSS := qhd hS; clear hS hd hI
      go_simp
      exact HSS.out _ _ hC (Below.refl _ _) (by simp [nF])
     simp only [qnr]
     refine qab (d := 149) rfl rfl (fun wx hC hI hd S0 hS => ?_) (fun x11 => ?_)
     ·have d10 := hd ⟨10, .data⟩ (by simp) rfl x10 (by simp)
      simp only [nF] at d10
      subst d10
      have c4' := qaa hC z4
      have c5' := qaa hC z5
      have HSS := qhd hS; clear hS hd hI
      go_simp
      exact HSS.out _ _ hC (Below.refl _ _) (by simp [nF])
     simp only [qnr]
     refine qab (d := 150) rfl rfl (fun wx hC hI hd S0 hS => ?_) (fun x12 => ?_)
     ·have d0 := hd ⟨0, .data⟩ (by simp) rfl x0 (by simp)
      simp only [nF] at d0
      subst d0
      have d3 := hd ⟨3, .data⟩ (by simp) rfl x3 (by simp)
      simp only [nF] at d3
      subst d3
      have d6 := hd ⟨6, .data⟩ (by simp) rfl x6 (by simp)
      simp only [nF] at d6
      subst d6
      have d11 := hd ⟨11, .data⟩ (by simp) rfl x11 (by simp)
      simp only [nF] at d11
      subst d11
      have HSS := qhd hS; clear hS hd hI
      go_simp
      refine (CAX.out _ (HBX.out.trans (hC.mono HBX.out.size))).mono ?_
      rintro _ w' ⟨rfl, hX⟩
      exact HSS.out _ _ (hC.trans (hX.mono hC.size)) hX (by simp [nF])
     simp only [qnr]
     refine qab (d := 151) rfl rfl (fun wx hC hI hd S0 hS => ?_) (fun x13 => ?_)
     ·have d12 := hd ⟨12, .data⟩ (by simp) rfl x12 (by simp)
      simp only [nF] at d12
      subst d12
      have HSS := qhd hS; clear hS hd hI
      go_simp
      exact HSS.out _ _ hC (Below.refl _ _) (by simp [nF])
     simp only [qnr]
     intro wu hC hF
     have f13 := hF 13 x13 (by simp) (fun _ _ => rfl)
     simp only [nF] at f13
     subst f13
     have hBU : Below wK.heap.size wK wu := hbt.trans (hC.mono hbt.size)
     clear hF hC z1 z2 z3 z4 z5
     simp only [List.drop_succ_cons, List.drop_zero]
     go_wp2
     go_roundw
     case measure => simp [intOf]; omega
     case rel => exact ⟨j + 1, by omega, by go_num, hBU⟩
    ·obtain rfl : j = vn := by omega
     go_wp2
     go_roundw
     case measure => simp [intOf]; omega
     case rel => exact ⟨k + 1, by omega, by omega, by go_num, hBT⟩
  ·obtain rfl : k = n := by omega
   cases ok
   ·go_wp2
    all_goals
     (try go_returns)
     exact HR.out _ _ ⟨rfl, by have := HBR.out; exact bbel⟩
   ·have hun := plain_pick_under hn1 HU.out
    go_wp2_with fail
    refine (CU.out _ ⟨ak, an⟩ HBR.out).mono ?_
    rw [hun]
    rintro _ w9 ⟨rfl, h9⟩
    go_wp2
    all_goals
     (try go_returns)
     exact HR.out _ _ ⟨rfl, by have := HBR.out; exact bbel⟩

end Go.Proofs.YtmbfpbgkchncgaaGreat
namespace Go.Proofs.YtmbfpbgkchncgaaGreat
open Go.ChangeShapes Go.WideShapes Go.ChangeAt Go.RowKit Go.Joins
theorem cells_u8 : Tryz.prog.cellsOf 5 = 1 := by kernel_rfl

theorem fnLnkPick_lifted (os : Os) (started : os.Started) (H : Type) (enc : TypeId × Value → H) :
  ReturnsInHanded {} Tryz.checked os 7 .any (Rows.fnLnkPickSpec.pre6 enc Tryz.prog Tryz.f7 Rows.fnLnkPickRow.domain false) (Rows.fnLnkPickSpec.post enc Tryz.prog Tryz.f7 false true false false) := by
 refine returnsInHanded_of_change (C := Tryz.checked) own started (by kernel_rfl) Tryz.func7
  (ChangeSpec.witness6 (enc := enc) (C := Tryz.checked) false ⟨#[], #[.slice none 0 0], []⟩ 8 (by kernel_rfl) (by kernel_rfl) (by kernel_rfl) (by kernel_rfl)) ?_
 intro W base args ds gs before hval0 hW hcnd _
 have hval : ∀ (j : Nat) t v, Tryz.f7.params[j]? = some t → args[j]? = some v → Value.okWide Tryz.prog W .any base t v := hval0
 have hW' := hW
 obtain ⟨p, q, hA0, hV, rfl, hfz, hnd⟩ := hW
 have hA : DataW.TrodAll enc Tryz.prog W 0 (fun _ => true) true Tryz.f7.params.toList args.toList ds p := hA0
 rw [Tryz.params7] at hA hval
 clear hA0 hval0
 obtain ⟨v0, d0, rfl, rfl, h0⟩ := trodAll_one hA
 obtain ⟨rfl, rfl⟩ := trodVars_none hV
 have b0 := open_bytes Tryz.underlying22 Tryz.underlying5 cells_u8 (hval 0 22 v0 rfl rfl) h0
 refine (L_FnLnkPick v0 W b0).mono fun e W' h => ?_
 obtain ⟨rfl, hb⟩ := h
 exact ⟨_, rfl, law_post (s := Rows.fnLnkPickSpec) hW' hb rfl rfl rfl Tryz.underlying4 (by rw [Tryz.params7]; kernel_rfl)⟩
theorem fnLnkPick_holds : Rows.FnLnkPickSaid :=
 OpenClaim.holds_of_wide 7 Tryz.f7 rfl rfl rfl rfl rfl rfl rfl ⟨rfl, rfl, rfl, rfl, rfl⟩ rfl rfl rfl rfl rfl (by kernel_rfl) Tryz.func7 (by kernel_rfl)
  (of_decide_eq_true (by kernel_rfl)) (by unfold Func.isWrapper; first | (rw [if_pos (by decide +kernel)]; kernel_rfl) | (rw [if_neg (by decide +kernel)]; exact ⟨rfl, rfl⟩))
  (fun os started H enc _ => fnLnkPick_lifted os started H enc)

end Go.Proofs.YtmbfpbgkchncgaaGreat
