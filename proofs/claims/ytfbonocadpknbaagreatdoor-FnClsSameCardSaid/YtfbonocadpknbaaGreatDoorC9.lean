/-
  Texts of mine, packed: Parse, ParseA, ParseB, ParseC, ParseL. No condition beside those of the single theorems.
-/
import Derived.Test.YtfbonocadpknbaaGreatDoorC8
set_option linter.unusedSimpArgs false
set_option linter.unusedVariables false
set_option maxHeartbeats 16000000
set_option maxRecDepth 100000
namespace Go.Proofs.YtfbonocadpknbaaGreatDoor
open Go.RowKit
def Apart (css : List (List Value)) : Prop := ∀ (i j : Nat) (o a o' a' : Value), i < j → css[i]? = some [o, a] → css[j]? = some [o', a'] → (∀ b, o.ownBlock = some b → o'.ownBlock ≠ some b) ∧ (∀ b, a.ownBlock = some b → a'.ownBlock ≠ some b)
structure PlanC (lo : Nat) (w : World) (v : Value) (css : List (List Value)) (p : DLodPlan) : Prop where
 rows : Rows 2 tLodKeeper lo w css p.fKeepers
 owns : w.ownsRow lo 45 2 v p.fKeepers.length css.flatten
 apart : Apart css
def TPlan (lo : Nat) (w : World) (v : Value) (p : DLodPlan) : Prop := ∃ css, PlanC lo w v css p
theorem Apart.take {css : List (List Value)} (h : Apart css) (n : Nat) : Apart (css.take n) := fun i j o a o' a' hij hi hj => by
 rw [List.getElem?_take] at hi hj
 split at hi <;> split at hj <;> first | exact h i j o a o' a' hij hi hj | (cases hi; done) | (cases hj; done)
theorem Apart.snoc {css : List (List Value)} (h : Apart css) {o a : Value} (hn : ∀ o' a', [o', a'] ∈ css → (∀ b, o'.ownBlock = some b → o.ownBlock ≠ some b) ∧ (∀ b, a'.ownBlock = some b → a.ownBlock ≠ some b)) : Apart (css ++ [[o, a]]) := fun i j x y x' y' hij hi hj => by
 by_cases hjl : j < css.length
 ·rw [List.getElem?_append_left (by omega)] at hi
  rw [List.getElem?_append_left hjl] at hj
  exact h i j x y x' y' hij hi hj
 ·rw [List.getElem?_append_right (by omega)] at hj
  obtain ⟨d, hd⟩ : ∃ d, j - css.length = d := ⟨_, rfl⟩
  rw [hd] at hj
  cases d with
  | zero =>
    simp at hj
    obtain ⟨rfl, rfl⟩ := hj
    rw [List.getElem?_append_left (by omega)] at hi
    exact hn _ _ (List.mem_of_getElem? hi)
  | succ d => simp at hj
theorem kpr_lt {lo : Nat} {w : World} {o a : Value} {k : DLodKeeper} (h : tLodKeeper lo w [o, a] k) : (∀ b, o.ownBlock = some b → b < w.heap.size) ∧ (∀ b, a.ownBlock = some b → b < w.heap.size) := by
 obtain ⟨x, y, e, ⟨c1, r1, s1⟩, ⟨c2, r2, s2⟩⟩ := h
 cases e
 exact ⟨fun b hb => (s1.lt b hb).2, fun b hb => (s2.lt b hb).2⟩
theorem PlanC.lt {lo : Nat} {w : World} {v : Value} {css : List (List Value)} {p : DLodPlan} (h : PlanC lo w v css p) {o a : Value} (hm : [o, a] ∈ css) : (∀ b, o.ownBlock = some b → b < w.heap.size) ∧ (∀ b, a.ownBlock = some b → b < w.heap.size) := by
 obtain ⟨i, hi⟩ := List.mem_iff_getElem?.1 hm
 obtain ⟨k, hk⟩ : ∃ k, p.fKeepers[i]? = some k := ⟨_, List.getElem?_eq_getElem (by rw [← h.rows.len]; exact (List.getElem?_eq_some_iff.1 hi).1)⟩
 exact kpr_lt (h.rows.row i k _ hk hi).2
theorem PlanC.below {lo : Nat} {w w' : World} {v : Value} {css : List (List Value)} {p : DLodPlan} (h : PlanC lo w v css p) (hb : Below w.heap.size w w') : PlanC lo w' v css p :=
 ⟨h.rows.mono fun cs x hx => tLodKeeper_goodT.stays _ _ _ _ _ (KeepsT.of_below hb) hx, own_kept h.owns (fun g cs fr _ _ hg => hb.block g (Array.getElem?_eq_some_iff.1 hg).1), h.apart⟩
theorem PlanC.keeps {lo : Nat} {w w' : World} {v : Value} {css : List (List Value)} {p : DLodPlan} (h : PlanC lo w v css p) (hk : KeepsT EPlan lo w w') : PlanC lo w' v css p :=
 ⟨h.rows.mono fun cs x hx => (tLodKeeper_goodT.mono fun _ h => Or.inl h).stays _ _ _ _ _ hk hx, own_kept h.owns (fun g cs fr _ hl hg => hk.block g cs _ fr hl (Or.inr rfl) hg), h.apart⟩
theorem TPlan.form {lo : Nat} {w : World} {v : Value} {p : DLodPlan} (h : TPlan lo w v p) : ∃ (a : Option Addr) (cap : Nat), v = .slice a p.fKeepers.length cap ∧ p.fKeepers.length ≤ cap ∧ cap ≤ maxLen := by
 obtain ⟨css, h⟩ := h
 exact own_form h.owns
theorem TPlan.keeps {lo : Nat} {w w' : World} {v : Value} {p : DLodPlan} (h : TPlan lo w v p) (hk : KeepsT EPlan lo w w') : TPlan lo w' v p := by
 obtain ⟨css, h⟩ := h
 exact ⟨css, h.keeps hk⟩
theorem TPlan.below {lo : Nat} {w w' : World} {v : Value} {p : DLodPlan} (h : TPlan lo w v p) (hb : Below w.heap.size w w') : TPlan lo w' v p := by
 obtain ⟨css, h⟩ := h
 exact ⟨css, h.below hb⟩
theorem TPlan.sl {lo : Nat} {w : World} {v : Value} {p : DLodPlan} (h : TPlan lo w v p) : Sl 2 rLodKeeper 0 w v p.fKeepers := by
 obtain ⟨css, h⟩ := h
 have h1 : TSl 2 tLodKeeper 45 lo w v p.fKeepers := ⟨css, h.rows, h.owns⟩
 exact (h1.sl fun _ _ h => tLodKeeper_r h).low rLodKeeper_good (Nat.zero_le _)

structure SmallP (N : Nat) (p : DLodPlan) : Prop where
 kprs : p.fKeepers.length ≤ N
 owns : ∀ k ∈ p.fKeepers, k.fOwns.length ≤ N
 asks : ∀ k ∈ p.fKeepers, k.fAsks.length ≤ N
 clss : ∀ k ∈ p.fKeepers, ∀ c ∈ k.fOwns, SmallC N c

def LinePost (p : DLodPlan) (line : ByteArray) (lo : Nat) (w : World) (e : Ending) (w' : World) : Prop :=
 ∃ v, e = .returned (.tuple #[.agg #[v], .bool (lineR p line).2]) ∧ TPlan lo w' v (lineR p line).1 ∧ Below w.heap.size w w'

theorem wordsGo_many : ∀ (c l : List UInt8), (wordsGo c l).length ≤ l.length + 1
 | _, [] => by simp [wordsGo]
 | c, x :: r => by
   unfold wordsGo
   split
   ·have := wordsGo_many [] r
    simp; omega
   ·have := wordsGo_many (c ++ [x]) r
    simp; omega
theorem words_len (s : ByteArray) : (words s).length ≤ s.size + 1 := by
 unfold words
 rw [List.length_map]
 have := wordsGo_many [] (by' s)
 rwa [by_len] at this
theorem wds_of {e : TypeId} {lo : Nat} {w : World} {v : Value} {line : ByteArray} (h : TSl 1 rStr e lo w v (words line)) (hl : line.size ≤ 10000) : ∃ g cap, Wds w v (words line) g cap := by
 obtain ⟨g, cap, h1, _, _, _, h2⟩ := str_cells h (words_pos line)
 refine ⟨g, cap, h1, h2, fun x hx => Nat.le_trans (words_size hx) hl, words_pos line, ?_⟩
 exact Nat.le_trans (words_len line) (by omega)

structure One1 (w : World) (b : Nat) (x0 : Value) : Prop where
 lt : b < w.heap.size
 c0 : w.cell? ⟨b, 0, none⟩ = some x0
 f0 : w.frozen? ⟨b, 0, none⟩ = false
theorem One1.below {w w' : World} {N b : Nat} {x0 : Value} (h : One1 w b x0) (hb : Below N w w') (hN : b < N) : One1 w' b x0 := ⟨Nat.lt_of_lt_of_le h.lt hb.size, qat hb hN h.c0, qax hb hN h.f0⟩

theorem lineR_kpr {p : DLodPlan} {line : ByteArray} (h : isW line tKeeper = true) : lineR p line = (⟨p.fKeepers ++ [⟨[], []⟩]⟩, decide (p.fKeepers.length < 3)) := by
 unfold lineR
 rw [if_pos h]
theorem nil_kpr (lo : Nat) (w : World) : tLodKeeper lo w [.slice none 0 0, .slice none 0 0] ⟨[], []⟩ := ⟨_, _, rfl, TSl.nil, TSl.nil⟩

theorem S_l8Line_keeper (p : DLodPlan) (v : Value) (line : ByteArray) (lo : Nat) (w : World) (hlo : lo ≤ w.heap.size) (hp : TPlan lo w v p) (hs : SmallP 10000 p) (hline : line.size ≤ 10000) (hk : isW line tKeeper = true) :
  Calls Tryz.prog 75 #[.agg #[v], .string line] w fun e w' => LinePost p line lo w e w' := by
 have IV := qhd (lineR_kpr (p := p) hk)
 have hk' := isW_true hk
 unfold tKeeper at hk'
 obtain ⟨css, hpc⟩ := hp
 obtain ⟨fa, fc, rfl, _, _⟩ := own_form hpc.owns
 have hlen := hs.kprs
 have HP := qhd hpc
 have HSRC := qhd (Src.of_own hpc.rows hpc.owns)
 obtain ⟨n, hn⟩ : ∃ n, p.fKeepers.length = n := ⟨_, rfl⟩
 have MB : Hid (decide ((n : Int) < 3) = decide (n < 3)) := qhd (by rw [decide_eq_decide]; omega)
 rw [hn] at hlen HSRC IV ⊢
 have HN := qhd hn
 clear hk hpc hs hn
 refine qab fun R HR => ?_
 go_enter Tryz.func75, Tryz.ntmps75
 go_wp2_with fail
 refine (S_l1Words line _ hline).mono ?_
 rintro _ w1 ⟨vw, rfl, _, h1⟩
 have X1 : Hid (One1 w1 w.heap.size (.slice fa n fc)) := qhd (by refine One1.below ?_ h1 (by (first | omega | (simp; done) | (simp; omega))); refine ⟨by (first | omega | (simp; done) | (simp; omega)), ?_, ?_⟩ <;> go_simp)
 have R1 : Hid (One1 w1 (w.heap.size + 1) (.slice none 0 0)) := qhd (by refine One1.below ?_ h1 (by (first | omega | (simp; done) | (simp; omega))); refine ⟨by (first | omega | (simp; done) | (simp; omega)), ?_, ?_⟩ <;> go_simp)
 have TX1 : Hid (TypeAt w1 w.heap.size 25) := qhd (by refine TypeAt.below ?_ h1 (by (first | omega | (simp; done) | (simp; omega))); (repeat' (first | (with_reducible assumption) | ((with_reducible refine TypeAt.new' _ _ _ _ ?_); simp; done) | (with_reducible refine TypeAt.alloc ?_ _) | (with_reducible refine TypeAt.set ?_ _ _) | (with_reducible refine TypeAt.drew ?_))))
 have TR1 : Hid (TypeAt w1 (w.heap.size + 1) 25) := qhd (by refine TypeAt.below ?_ h1 (by (first | omega | (simp; done) | (simp; omega))); (repeat' (first | (with_reducible assumption) | ((with_reducible refine TypeAt.new' _ _ _ _ ?_); simp; done) | (with_reducible refine TypeAt.alloc ?_ _) | (with_reducible refine TypeAt.set ?_ _ _) | (with_reducible refine TypeAt.drew ?_))))
 have hE1 : Below w.heap.size w w1 := bbel
 have hz1 := hE1.size
 have HP1 := qhd (HP.out.below hE1)
 have HSRC1 := qhd (HSRC.out.kept hE1)
 clear h1
 have hlx := X1.out.lt
 have hlr := R1.out.lt
 have x0 := X1.out.c0
 have f0 := X1.out.f0
 have HE0 : Hid (Empty0 45 w1.heap.size (w1.alloc (.cells #[] 45)) (.slice (some ⟨w1.heap.size, 0, none⟩) 0 0)) := qhd (Empty0.at w1 rfl (Nat.le_refl _))
 have HS0 : Hid (∀ o, Src 2 (w1.alloc o) (.slice fa n fc) css) := qhd (fun o => HSRC1.out.kept (bbel))
 have HR0 : Hid (∀ o, Rows 2 tLodKeeper lo (w1.alloc o) css p.fKeepers) := qhd (fun o => (HP1.out.below (bbel)).rows)
 go_wp2_with (at_builtin; refine wpList_append_copyC (B := w1.heap.size) (lo := lo) (R := tLodKeeper) (E := ELodKeeper) (ys := p.fKeepers) (css := css) (by rfl) (.tmp 23) (.tmp 25) 23 (by rfl) sty_Kpr tLodKeeper_goodT tLodKeeper_one (by rfl) (by rfl) HE0.out (HS0.out _) (HR0.out _) (by have := HN.out; omega) (by omega) (by simp) ?_)
 intro v2 w2 ht2 hb2
 have hz2 := hb2.size
 (try simp only [World.size_alloc] at hz2)
 have hE2 : Below w1.heap.size w1 w2 := bbel
 have X2 := qhd (X1.out.below hE2 hlx)
 have R2 := qhd (R1.out.below hE2 hlr)
 have TX2 := qhd (TX1.out.below hE2 hlx)
 have TR2 := qhd (TR1.out.below hE2 hlr)
 have HT2 : Hid (∀ o, TOwnC 2 tLodKeeper 45 lo w1.heap.size (w2.alloc o) v2 css p.fKeepers) := qhd (fun o => ht2.below tLodKeeper_goodT (bbel))
 have HS2 : Hid (Src 2 (w2.alloc (.cells #[.slice none 0 0, .slice none 0 0] 45)) (.slice (some ⟨w2.heap.size, 0, none⟩) 1 1) [[.slice none 0 0, .slice none 0 0]]) := qhd (Src.new (k := 2) (cs := [.slice none 0 0, .slice none 0 0]))
 have HZ2 : Hid (∀ o, w1.heap.size ≤ (w2.alloc o).heap.size) := qhd (fun o => by simp; omega)
 have hF2 : Below w.heap.size w w2 := hE1.trans (hE2.mono hE1.size)
 clear hb2 ht2 X1 R1 TX1 TR1 HE0 HS0 HR0 x0 f0
 have hlx2 := X2.out.lt
 have hlr2 := R2.out.lt
 have x0 := X2.out.c0
 have f0 := X2.out.f0
 go_wp2_with (at_builtin; refine wpList_append_FC (B := w1.heap.size) (lo := lo) (xs := p.fKeepers) (ys := [(⟨[], []⟩ : DLodKeeper)]) (cx := css) (css := [[.slice none 0 0, .slice none 0 0]]) (E := ELodKeeper) (by rfl) (.tmp 26) (.tmp 28) 23 (by rfl) sty_Kpr tLodKeeper_goodT ELodKeeper_not tLodKeeper_one (by rfl) (by rfl) (HT2.out _) HS2.out (Rows.one rfl (nil_kpr lo _)) (by have := HN.out; simp; omega) (by omega) (HZ2.out _) ?_)
 intro v3 w3 ht3 hb3 hg3 hk3 hat3
 have hz3 := hb3.size
 (try simp only [World.size_alloc] at hz3)
 have hE3 : Below w1.heap.size w2 w3 := Below.trans (bbel) hb3
 have X3 := X2.out.below hE3 (by omega)
 have R3 := R2.out.below hE3 (by omega)
 have TX3 := qhd (TX2.out.below hE3 (by omega))
 have TR3 := qhd (TR2.out.below hE3 (by omega))
 have hF3 : Below w.heap.size w w3 := hF2.trans (hE3.mono (by omega))
 obtain ⟨ka, kc, rfl, _, _⟩ := own_form ht3.owns
 have HPN : Hid (PlanC lo w3 (.slice ka (p.fKeepers ++ [(⟨[], []⟩ : DLodKeeper)]).length kc) (css ++ [[.slice none 0 0, .slice none 0 0]]) ⟨p.fKeepers ++ [⟨[], []⟩]⟩) := qhd ⟨ht3.rows, ht3.owns, HP.out.apart.snoc fun o' a' _ => ⟨fun b _ h => by simp [Value.ownBlock] at h, fun b _ h => by simp [Value.ownBlock] at h⟩⟩
 obtain ⟨kn, hkn⟩ : ∃ n, (p.fKeepers ++ [(⟨[], []⟩ : DLodKeeper)]).length = n := ⟨_, rfl⟩
 rw [hkn] at HPN
 try rw [hkn]
 clear ht3 hb3 hg3 hk3 hat3 hE3 X2 R2 TX2 TR2 HT2 HS2 HZ2 hkn x0 f0
 obtain ⟨lx, x0, f0⟩ := X3
 obtain ⟨lr, r0, o0⟩ := R3
 go_wp2
 all_goals
  refine bodyPost_ret (v := ?_) ?hrun rfl ?_
  case hrun => (simp only [results, Tryz.results75]; go_simp; first | done | exact rfl)
  refine HR.out _ _ ⟨.slice ka kn kc, ?_, ?_, bbel⟩
  ·rw [IV.out]
   have := MB.out
   first | rfl | (simp [*])
  ·rw [IV.out]
   have TX := TX3.out
   have TR := TR3.out
   exact TPlan.keeps (show TPlan lo w3 _ _ from ⟨_, HPN.out⟩) (by (repeat' (first | (with_reducible exact KeepsT.refl _ _ _) | (with_reducible assumption) | (with_reducible refine KeepsT.allocB ?_ _) | (with_reducible refine KeepsT.drewB ?_) | (with_reducible refine KeepsT.setB ?_ ?_ (EPlan_plan) _) | ((with_reducible refine TypeAt.new' _ _ _ _ ?_); simp; done) | (with_reducible refine TypeAt.alloc ?_ _) | (with_reducible refine TypeAt.set ?_ _ _) | (with_reducible refine TypeAt.drew ?_))))

theorem lineR_none {p : DLodPlan} {line : ByteArray} (h : isW line tKeeper = false) (h0 : p.fKeepers.getLast? = none) : lineR p line = (p, false) := by
 unfold lineR
 rw [if_neg (by rw [h]; decide), h0]
theorem lineR_out {p : DLodPlan} {line : ByteArray} {k : DLodKeeper} (h : isW line tKeeper = false) (h0 : p.fKeepers.getLast? = some k) (hl : lastLine k line = none) : lineR p line = (p, false) := by
 unfold lineR
 rw [if_neg (by rw [h]; decide), h0]
 simp only [hl]
theorem lineR_some {p : DLodPlan} {line : ByteArray} {k k' : DLodKeeper} {ok : Bool} (h : isW line tKeeper = false) (h0 : p.fKeepers.getLast? = some k) (hl : lastLine k line = some (k', ok)) : lineR p line = (⟨p.fKeepers.dropLast ++ [k']⟩, ok) := by
 unfold lineR
 rw [if_neg (by rw [h]; decide), h0]
 simp only [hl]

theorem S_l8Line_empty (p : DLodPlan) (v : Value) (line : ByteArray) (lo : Nat) (w : World) (hlo : lo ≤ w.heap.size) (hp : TPlan lo w v p) (hline : line.size ≤ 10000) (hk : isW line tKeeper = false) (h0 : p.fKeepers = []) :
  Calls Tryz.prog 75 #[.agg #[v], .string line] w fun e w' => LinePost p line lo w e w' := by
 have IV := qhd (lineR_none (p := p) hk (by rw [h0]; rfl))
 have hk' := qaw hk
 unfold tKeeper at hk'
 obtain ⟨fa, fc, rfl, _, _⟩ := hp.form
 have HP := qhd hp
 rw [h0] at HP ⊢
 simp only [List.length_nil] at HP ⊢
 clear hk hp h0
 refine qab fun R HR => ?_
 go_enter Tryz.func75, Tryz.ntmps75
 go_wp2_with fail
 refine (S_l1Words line _ hline).mono ?_
 rintro _ w1 ⟨vw, rfl, _, h1⟩
 obtain ⟨hlx, x0, f0⟩ : One1 w1 w.heap.size (.slice fa 0 fc) := by refine One1.below ?_ h1 (by (first | omega | (simp; done) | (simp; omega))); refine ⟨by (first | omega | (simp; done) | (simp; omega)), ?_, ?_⟩ <;> go_simp
 obtain ⟨hlr, r0, o0⟩ : One1 w1 (w.heap.size + 1) (.slice none 0 0) := by refine One1.below ?_ h1 (by (first | omega | (simp; done) | (simp; omega))); refine ⟨by (first | omega | (simp; done) | (simp; omega)), ?_, ?_⟩ <;> go_simp
 have TR1 : Hid (TypeAt w1 (w.heap.size + 1) 25) := qhd (by refine TypeAt.below ?_ h1 (by (first | omega | (simp; done) | (simp; omega))); (repeat' (first | (with_reducible assumption) | ((with_reducible refine TypeAt.new' _ _ _ _ ?_); simp; done) | (with_reducible refine TypeAt.alloc ?_ _) | (with_reducible refine TypeAt.set ?_ _ _) | (with_reducible refine TypeAt.drew ?_))))
 have hE1 : Below w.heap.size w w1 := bbel
 have HP1 := qhd (HP.out.below hE1)
 clear h1
 go_wp2
 all_goals
  refine bodyPost_ret (v := ?_) ?hrun rfl ?_
  case hrun => (simp only [results, Tryz.results75]; go_simp; first | done | exact rfl)
  refine HR.out _ _ ⟨.slice fa 0 fc, ?_, ?_, bbel⟩
  ·rw [IV.out]
  ·rw [IV.out]
   have TR := TR1.out
   exact TPlan.keeps HP1.out (by (repeat' (first | (with_reducible exact KeepsT.refl _ _ _) | (with_reducible assumption) | (with_reducible refine KeepsT.allocB ?_ _) | (with_reducible refine KeepsT.drewB ?_) | (with_reducible refine KeepsT.setB ?_ ?_ (EPlan_plan) _) | ((with_reducible refine TypeAt.new' _ _ _ _ ?_); simp; done) | (with_reducible refine TypeAt.alloc ?_ _) | (with_reducible refine TypeAt.set ?_ _ _) | (with_reducible refine TypeAt.drew ?_))))

theorem lastLine_asks {k : DLodKeeper} {line w0 : ByteArray} (h0 : (words line).getD 0 ⟨#[]⟩ = w0) (h : isW w0 tAsks = true) : lastLine k line = some ({ k with fAsks := k.fAsks ++ [(askRead (words line)).1] }, (askRead (words line)).2 && decide (k.fOwns.length = 0)) := by
 unfold lastLine
 simp only [h0]
 rw [if_pos h]
theorem lastLine_class {k : DLodKeeper} {line w0 : ByteArray} (h0 : (words line).getD 0 ⟨#[]⟩ = w0) (h1 : isW w0 tAsks = false) (h : isW w0 tClass = true) : lastLine k line = some ({ k with fOwns := k.fOwns ++ [(clsRead (words line)).1] }, (clsRead (words line)).2) := by
 unfold lastLine
 simp only [h0]
 rw [if_neg (by rw [h1]; decide), if_pos h]
theorem lastLine_none {k : DLodKeeper} {line w0 : ByteArray} (h0 : (words line).getD 0 ⟨#[]⟩ = w0) (h1 : isW w0 tAsks = false) (h2 : isW w0 tClass = false) (h : k.fOwns.getLast? = none) : lastLine k line = none := by
 unfold lastLine
 simp only [h0]
 rw [if_neg (by rw [h1]; decide), if_neg (by rw [h2]; decide), h]
theorem lastLine_inner {k : DLodKeeper} {c : DClsClass} {line w0 : ByteArray} (h0 : (words line).getD 0 ⟨#[]⟩ = w0) (h1 : isW w0 tAsks = false) (h2 : isW w0 tClass = false) (h : k.fOwns.getLast? = some c) : lastLine k line = some ({ k with fOwns := k.fOwns.dropLast ++ [(inner c line).1] }, (inner c line).2) := by
 unfold lastLine
 simp only [h0]
 rw [if_neg (by rw [h1]; decide), if_neg (by rw [h2]; decide), h]

theorem Apart.init {css : List (List Value)} {r : List Value} (h : Apart (css ++ [r])) : Apart css := by
 have := h.take css.length
 rwa [List.take_left] at this
theorem Apart.last {css : List (List Value)} {o a : Value} (h : Apart (css ++ [[o, a]])) {o' a' : Value} (hm : [o', a'] ∈ css) : (∀ b, o'.ownBlock = some b → o.ownBlock ≠ some b) ∧ (∀ b, a'.ownBlock = some b → a.ownBlock ≠ some b) := by
 obtain ⟨i, hi⟩ := List.mem_iff_getElem?.1 hm
 have hl := (List.getElem?_eq_some_iff.1 hi).1
 exact h i css.length o' a' o a hl (by rw [List.getElem?_append_left hl]; exact hi) (by simp)

theorem PlanC.last {lo : Nat} {w : World} {v : Value} {css : List (List Value)} {p : DLodPlan} {k : DLodKeeper} (h : PlanC lo w v css p) (hk : p.fKeepers.getLast? = some k) :
  ∃ (b cap : Nat) (o a : Value) (cs : List (List Value)), v = .slice (some ⟨b, 0, none⟩) p.fKeepers.length cap ∧ b < w.heap.size ∧ p.fKeepers.length ≤ cap ∧ cap ≤ maxLen ∧ w.rangeAt b ((p.fKeepers.length - 1) * 2) [o, a] ∧ tLodKeeper lo w [o, a] k ∧
   css = cs ++ [[o, a]] ∧ Src 2 w (.slice (some ⟨b, 0, none⟩) (p.fKeepers.length - 1) cap) cs ∧ Rows 2 tLodKeeper lo w cs p.fKeepers.dropLast := by
 have hne : p.fKeepers ≠ [] := fun e => by rw [e] at hk; cases hk
 have hpos : 0 < p.fKeepers.length := List.length_pos_iff.2 hne
 have hi : p.fKeepers[p.fKeepers.length - 1]? = some k := by rw [← List.getLast?_eq_getElem?]; exact hk
 obtain ⟨h1, h2, _⟩ := h
 obtain ⟨b, cap, rfl, hb, hlt, hc, hmx, hcell, _⟩ := own_cell h2 hpos
 have hcl := h1.len
 obtain ⟨cs, hcs⟩ : ∃ cs, css[p.fKeepers.length - 1]? = some cs := ⟨_, List.getElem?_eq_getElem (by rw [hcl]; omega)⟩
 obtain ⟨hk2, hR⟩ := h1.row _ k cs hi hcs
 obtain ⟨o, a, rfl, s⟩ := id hR
 have htake := h1.take (p.fKeepers.length - 1)
 refine ⟨b, cap, o, a, css.take (p.fKeepers.length - 1), rfl, hlt, hc, hmx, fun j u hj => ?_, hR, ?_, Or.inr ⟨⟨b, 0, none⟩, cap, by rw [List.length_take, hcl, Nat.min_eq_left (by omega)], fun j u hj => ?_⟩, ?_⟩
 ·have hj2 : j < 2 := by have := (List.getElem?_eq_some_iff.1 hj).1; simpa using this
  exact hcell _ u ((flat_at h1.each hcs hj2).trans hj)
 ·have hl2 : css.getLast? = some [o, a] := by rw [List.getLast?_eq_getElem?, hcl]; exact hcs
  rw [← hcl, ← List.dropLast_eq_take]
  obtain ⟨ys, rfl⟩ := List.getLast?_eq_some_iff.1 hl2
  rw [List.dropLast_concat]
 ·rw [Addr.add_mid, Nat.zero_add]
  refine hcell j u ?_
  have e : css.flatten = (css.take (p.fKeepers.length - 1)).flatten ++ (css.drop (p.fKeepers.length - 1)).flatten := by rw [← List.flatten_append, List.take_append_drop]
  rw [e, List.getElem?_append_left (List.getElem?_eq_some_iff.1 hj).1]
  exact hj
 ·rw [List.dropLast_eq_take]
  exact htake

theorem askRead_size {ws : List ByteArray} (h : ∀ x ∈ ws, x.size ≤ 10000) : (askRead ws).1.fName.size ≤ 10000 := by
 unfold askRead
 split
 ·exact h _ (by simp)
 ·exact Nat.zero_le _
theorem clsRead_size {ws : List ByteArray} (h : ∀ x ∈ ws, x.size ≤ 10000) : (clsRead ws).1.fName.size ≤ 10000 ∧ (clsRead ws).1.fSuper.size ≤ 10000 := by
 unfold clsRead
 split
 ·split
  ·refine ⟨h _ (by simp), ?_⟩
   simp only
   split <;> first | exact Nat.zero_le _ | exact h _ (by simp)
  ·exact ⟨Nat.zero_le _, Nat.zero_le _⟩
 ·exact ⟨Nat.zero_le _, Nat.zero_le _⟩

theorem One1.set_other {w : World} {b c o : Nat} {v x0 : Value} (h : One1 w b x0) (hn : b ≠ c) : One1 (w.setCell ⟨c, o, none⟩ v) b x0 := by
 obtain ⟨h0, a0, b0⟩ := h
 exact ⟨by simpa [World.setCell] using h0, (World.cell?_setCell_other _ _ _ _ (by intro e; simp at e <;> omega)).trans a0, by rw [World.frozen?_setCell]; exact b0⟩
theorem Four2.set0 {w : World} {b : Nat} {v x0 x1 : Value} (h : Four2 w b x0 x1) : Four2 (w.setCell ⟨b, 0, none⟩ v) b v x1 := by
 obtain ⟨h0, a0, a1, b0, b1⟩ := h
 refine ⟨by simpa [World.setCell] using h0, by rw [World.cell?_setCell_same _ _ _ a0], (World.cell?_setCell_other _ _ _ _ (by intro e; simp at e <;> omega)).trans a1, ?_, ?_⟩ <;> (rw [World.frozen?_setCell]; assumption)
theorem Four2.set1 {w : World} {b : Nat} {v x0 x1 : Value} (h : Four2 w b x0 x1) : Four2 (w.setCell ⟨b, 1, none⟩ v) b x0 v := by
 obtain ⟨h0, a0, a1, b0, b1⟩ := h
 refine ⟨by simpa [World.setCell] using h0, (World.cell?_setCell_other _ _ _ _ (by intro e; simp at e <;> omega)).trans a0, by rw [World.cell?_setCell_same _ _ _ a1], ?_, ?_⟩ <;> (rw [World.frozen?_setCell]; assumption)

theorem S_l8Line_asks (p : DLodPlan) (k : DLodKeeper) (v : Value) (line : ByteArray) (lo : Nat) (w : World) (hlo : lo ≤ w.heap.size) (hp : TPlan lo w v p) (hs : SmallP 10000 p) (hline : line.size ≤ 10000) (hk : isW line tKeeper = false) (hl : p.fKeepers.getLast? = some k)
  (w0 : ByteArray) (h0 : (words line)[0]? = some w0) (hk1 : isW w0 tAsks = true) :
  Calls Tryz.prog 75 #[.agg #[v], .string line] w fun e w' => LinePost p line lo w e w' := by
 have IV := qhd (lineR_some (p := p) hk hl (lastLine_asks (k := k) (line := line) (by rw [List.getD_eq_getElem?_getD, h0]; rfl) hk1))
 have hk' := qaw hk
 have hk1' := isW_true hk1
 unfold tKeeper at hk'
 unfold tAsks at hk1'
 obtain ⟨css, hpc⟩ := hp
 have hmem : k ∈ p.fKeepers := List.mem_of_getLast? hl
 have hne : 0 < p.fKeepers.length := List.length_pos_iff.2 (List.ne_nil_of_mem hmem)
 obtain ⟨kb, kc, vo, va, cs, rfl, hkb, hkc, hmx, hrng, hkr, rfl, hsrc, hrow⟩ := hpc.last hl
 obtain ⟨y1, y2, e0, t1, t2⟩ := id hkr
 cases e0
 obtain ⟨oa, oc, rfl, _, _⟩ := t1.form
 obtain ⟨aa, ac, rfl, _, _⟩ := t2.form
 have hAs : k.fAsks.length ≤ 10000 := hs.asks k hmem
 have hPl : p.fKeepers.length ≤ 10000 := hs.kprs
 obtain ⟨x, ok, hx⟩ : ∃ a b, askRead (words line) = (a, b) := ⟨_, _, rfl⟩
 rw [hx] at IV
 obtain ⟨n, hn⟩ : ∃ n, p.fKeepers.length = n := ⟨_, rfl⟩
 obtain ⟨on, hon⟩ : ∃ n, k.fOwns.length = n := ⟨_, rfl⟩
 obtain ⟨an, han⟩ : ∃ n, k.fAsks.length = n := ⟨_, rfl⟩
 have HN := qhd hn
 have HAN := qhd han
 rw [hn] at hne hkc hrng hsrc hPl ⊢
 rw [hon] at hkr IV t1 hrng hpc
 rw [han] at hkr hAs hrng hpc
 have HPC := qhd hpc
 have HRNG := qhd hrng
 have HKR := qhd hkr
 have HSRC := qhd hsrc
 have HROW := qhd hrow
 have T2 := qhd t2
 have T1 := qhd t1
 have HIM : Hid ((Tryz.prog.info? 45).map (·.size) = some 2) := qhd (by kernel_rfl)
 have MB : Hid (((on : Int) == 0) = decide (on = 0)) := qhd (by rw [Bool.eq_iff_iff]; simp)
 have hnn : ((n : Int) == 0) = false := by rw [beq_eq_false_iff_ne]; omega
 have hgc : kc ≤ 9223372036854775807 := by unfold maxLen at hmx; omega
 have HX := qhd hx
 have HXR : Hid (∀ lo w, rLodAsk lo w [.string x.fName, .int .i64 x.fKeeper] x) := qhd fun lo w => ⟨rfl, by have h9 := askRead_size (ws := words line) (fun y hy => Nat.le_trans (words_size hy) hline); rw [hx] at h9; unfold maxLen; exact Nat.le_trans h9 (by decide)⟩
 clear hk hk1 hl hs hpc hmem hrng hkr hsrc hrow t1 t2 hx hn hon han hmx
 refine qab fun R HR => ?_
 go_enter Tryz.func75, Tryz.ntmps75
 go_wp2_with fail
 refine (S_l1Words line _ hline).mono ?_
 rintro _ w1 ⟨vw, rfl, hvw, h1⟩
 obtain ⟨g, wc, hwd⟩ := wds_of hvw hline
 have X1 : Hid (One1 w1 w.heap.size (.slice (some ⟨kb, 0, none⟩) n kc)) := qhd (by refine One1.below ?_ h1 (by (first | omega | (simp; done) | (simp; omega))); refine ⟨by (first | omega | (simp; done) | (simp; omega)), ?_, ?_⟩ <;> go_simp)
 have R1 : Hid (One1 w1 (w.heap.size + 1) (.slice none 0 0)) := qhd (by refine One1.below ?_ h1 (by (first | omega | (simp; done) | (simp; omega))); refine ⟨by (first | omega | (simp; done) | (simp; omega)), ?_, ?_⟩ <;> go_simp)
 have TX1 : Hid (TypeAt w1 w.heap.size 25) := qhd (by refine TypeAt.below ?_ h1 (by (first | omega | (simp; done) | (simp; omega))); (repeat' (first | (with_reducible assumption) | ((with_reducible refine TypeAt.new' _ _ _ _ ?_); simp; done) | (with_reducible refine TypeAt.alloc ?_ _) | (with_reducible refine TypeAt.set ?_ _ _) | (with_reducible refine TypeAt.drew ?_))))
 have TR1 : Hid (TypeAt w1 (w.heap.size + 1) 25) := qhd (by refine TypeAt.below ?_ h1 (by (first | omega | (simp; done) | (simp; omega))); (repeat' (first | (with_reducible assumption) | ((with_reducible refine TypeAt.new' _ _ _ _ ?_); simp; done) | (with_reducible refine TypeAt.alloc ?_ _) | (with_reducible refine TypeAt.set ?_ _ _) | (with_reducible refine TypeAt.drew ?_))))
 have hE1 : Below w.heap.size w w1 := bbel
 have hz1 := hE1.size
 have HR1 := qhd (range_below HRNG.out hE1 hkb)
 have CF : ∀ W, Below w1.heap.size w1 W → Calls Tryz.prog 94 #[vw] W fun e w' => e = .returned (.tuple #[.agg #[.string x.fName, .int .i64 x.fKeeper], .bool ok]) ∧ Below W.heap.size W w' := fun W hb => (S_l8Asks vw (words line) g wc W (hwd.below hb)).mono fun e w' h => ⟨h.1.trans (by rw [HX.out]; rfl), h.2⟩
 have c0 := hwd.cell 0 w0 h0
 have hv := hwd.val
 have hpos := hwd.pos
 have hg : g < w1.heap.size := block_lt_of_cell c0
 subst hv
 have hlx := X1.out.lt
 have hlr := R1.out.lt
 have x0 := X1.out.c0
 have hi1 : (1 : Int) ≤ (n : Int) := by omega
 have hi2 : (n : Int) - 1 ≤ (kc : Int) := by omega
 have hi3 : ¬ ((kc : Int) < (n : Int) - 1) := by omega
 have hi4 : (0 : Int) ≤ (n : Int) - 1 := by omega
 clear h1 hwd h0 hvw HRNG HX
 go_wp2_with (refine wpList_load_mid (by rfl) 45 (.tmp 41) (by rfl) kb ((n - 1) * 2) ?hx [.slice oa on oc, .slice aa an ac] _ ?hr Tryz.underlying45 (by rfl) HIM.out ?_)
 case hx => rfl
 case hr => exact HR1.out
 refine (CF _ (bbel)).mono ?_
 rintro _ w2 ⟨rfl, h2⟩
 have K2 : Hid (Four2 w2 w1.heap.size (.slice oa on oc) (.slice aa an ac)) := qhd (by refine Four2.below ?_ h2 (by (first | omega | (simp; done) | (simp; omega))); refine ⟨by (first | omega | (simp; done) | (simp; omega)), ?_, ?_, ?_, ?_⟩ <;> go_simp)
 have TK2 : Hid (TypeAt w2 w1.heap.size 45) := qhd (by refine TypeAt.below ?_ h2 (by (first | omega | (simp; done) | (simp; omega))); (repeat' (first | (with_reducible assumption) | ((with_reducible refine TypeAt.new' _ _ _ _ ?_); simp; done) | (with_reducible refine TypeAt.alloc ?_ _) | (with_reducible refine TypeAt.set ?_ _ _) | (with_reducible refine TypeAt.drew ?_))))
 have hE2 : Below w1.heap.size w1 w2 := bbel
 have X2 := qhd (X1.out.below hE2 hlx)
 have R2 := qhd (R1.out.below hE2 hlr)
 have TX2 := qhd (TX1.out.below hE2 hlx)
 have TR2 := qhd (TR1.out.below hE2 hlr)
 have hF2 : Below w.heap.size w w2 := hE1.trans (hE2.mono hz1)
 have hz2 := h2.size
 (try simp only [World.size_alloc, World.size_setCell] at hz2)
 obtain ⟨cssx, hsx, hrx⟩ := (TSl.below rLodAsk_goodT T2.out hF2).src
 rw [HAN.out] at hsx
 have HSX := qhd hsx
 have HRX := qhd hrx
 have hlk := K2.out.lt
 have k0 := K2.out.c0
 clear h2 hE1 hE2 CF X1 R1 TX1 TR1 hsx hrx c0 HR1 hi1 hi2 hi3 hi4 x0 T2 hz1
 cases ok
 all_goals
  go_wp2_with fail
  have hal : k.fAsks.length ≤ 10000 := by rw [HAN.out]; exact hAs
  refine wp_app2 (css := cssx) (B := w2.heap.size + 1) (lo := lo) (R := rLodAsk) (E := NoT) (bx := w1.heap.size) (fx := 1) (cy := w2.heap.size) (src := .slice aa an ac) (csy := [.string x.fName, .int .i64 x.fKeeper]) (xs := k.fAsks) sty_Ask (by decide) rLodAsk_goodT rLodAsk_one (by first | omega | (simp; omega)) (by (first | omega | (simp; done) | (simp; omega))) (by rfl) (by intro w; go_simp) ?hcx (by rfl) ?hcy (by (first | omega | (simp; done) | (simp; omega))) rfl Tryz.underlying51 rfl ?hsrc ?hrow ?hlen (by decide) (by decide) (by simp) rfl (by kernel_rfl) (by decide) (by kernel_rfl) (by kernel_rfl) (by kernel_rfl) (by kernel_rfl) ?h
  case hcy => (intro j u hj; match j, hj with | 0, hj => cases hj; go_simp | 1, hj => cases hj; go_simp | j + 2, hj => simp at hj)
  case hsrc => exact (HSX.out).kept (bbel)
  case hrow => exact (HRX.out).mono fun cs x hx => (rLodAsk_goodT).stays _ _ _ _ _ (KeepsT.of_below (bbel)) hx
  case hlen => omega
  case hcx => have := K2.out.c1; go_simp
  case h =>
   intro v0 v3 v5 w3 hb3 ht3 hs3
   simp only [qnr]
   have hz3 := hb3.size
   simp only [World.size_alloc] at hz3
   have hE3 : Below w2.heap.size w2 w3 := bbel
   have HX3 : Hid (rLodAsk lo w3 [.string x.fName, .int .i64 x.fKeeper] x) := qhd (HXR.out lo w3)
   clear hb3 k0
   go_wp2_with (refine qam (B := w2.heap.size + 1) (lo := lo) (xs := k.fAsks) (ys := [x]) (css := [[.string x.fName, .int .i64 x.fKeeper]]) (E := NoT) (by rfl) (.tmp 86) (.tmp 88) 43 (by rfl) sty_Ask rLodAsk_goodT id rLodAsk_one (by rfl) (by rfl) ht3 hs3 (Rows.one rfl HX3.out) (by simp; omega) (by omega) (by omega) ?_)
   intro v6 w4 ht4 hb4 hg4 hk4 hat4
   have hE4 : Below w2.heap.size w2 w4 := hE3.trans (hb4.mono (by omega))
   have X4 := qhd (X2.out.below hE4 (by omega))
   have R4 := qhd (R2.out.below hE4 (by omega))
   have K4 := qhd (K2.out.below hE4 hlk)
   have TX4 := qhd (TX2.out.below hE4 (by omega))
   have TR4 := qhd (TR2.out.below hE4 (by omega))
   have TK4 := qhd (TK2.out.below hE4 hlk)
   have hF4 : Below w.heap.size w w4 := hF2.trans (hE4.mono hF2.size)
   have HO4 : Hid (∀ b, v6.ownBlock = some b → w.heap.size ≤ b) := qhd fun b hb => by have := ht4.own b hb; omega
   obtain ⟨ja, jn, jc, rfl⟩ := ht4.sl.form3
   have hz4 := hE4.size
   clear ht3 hs3 hb4 hg4 hk4 hat4 X2 R2 K2 TX2 TR2 TK2 HX3 hE3 HSX HRX hz3 hE4
   have k1 := K4.out.c1
   have f1 := K4.out.f1
   go_wp2_with fail
   obtain ⟨W5, hW5⟩ : ∃ W, W = w4.setCell ⟨w1.heap.size, 1, none⟩ (.slice ja jn jc) := ⟨_, rfl⟩
   rw [← hW5]
   have X5 : Hid (One1 W5 w.heap.size (.slice (some ⟨kb, 0, none⟩) n kc)) := qhd (by rw [hW5]; exact X4.out.set_other (by omega))
   have R5 : Hid (One1 W5 (w.heap.size + 1) (.slice none 0 0)) := qhd (by rw [hW5]; exact R4.out.set_other (by omega))
   have K5 : Hid (Four2 W5 w1.heap.size (.slice oa on oc) (.slice ja jn jc)) := qhd (by rw [hW5]; exact K4.out.set1)
   have TX5 : Hid (TypeAt W5 w.heap.size 25) := qhd (by rw [hW5]; exact TX4.out.set _ _)
   have TR5 : Hid (TypeAt W5 (w.heap.size + 1) 25) := qhd (by rw [hW5]; exact TR4.out.set _ _)
   have hF5 : Below w.heap.size w W5 := by rw [hW5]; exact bbel
   have TA5 := ht4.sl.stays (E := ELodKeeper) (rLodAsk_goodT.mono fun _ h => h.elim) (by unfold ELodKeeper; simp) (w' := W5) (by rw [hW5]; exact KeepsT.set TK4.out ELodKeeper_not)
   have TO5 := TSl.below (tClsClass_goodT) T1.out hF5
   have RW5 : Hid (tLodKeeper lo W5 [.slice oa on oc, .slice ja jn jc] { k with fAsks := k.fAsks ++ [x] }) := qhd ⟨_, _, rfl, TO5, TA5⟩
   have hz5 : w.heap.size + 3 ≤ W5.heap.size := by rw [hW5]; simp [World.setCell]; omega
   clear hW5 X4 R4 K4 TX4 TR4 TK4 ht4 hF4 TA5 TO5 k1 f1 hz4 hz2
   have hlk5 := K5.out.lt
   have HCY : Hid (World.rangeAt W5 w1.heap.size 0 [.slice oa on oc, .slice ja jn jc]) := qhd (by have c0 := K5.out.c0; have c1 := K5.out.c1; (intro j u hj; match j, hj with | 0, hj => cases hj; go_simp | 1, hj => cases hj; go_simp | j + 2, hj => simp at hj))
   have hSR := HSRC.out.kept hF5
   have hRW := HROW.out.mono fun cs x hx => tLodKeeper_goodT.stays _ _ _ _ _ (KeepsT.of_below hF5) hx
   go_wp2_with fail
   refine wp_app3C (css := cs) (B := W5.heap.size) (lo := lo) (R := tLodKeeper) (E := ELodKeeper) (bx := w.heap.size) (fx := 0) (cy := w1.heap.size) (src := .slice (some ⟨kb, 0, none⟩) n kc) (src2 := .slice (some ⟨kb, 0, none⟩) (n - 1) kc) (nm := (n : Int)) (csy := [.slice oa on oc, .slice ja jn jc]) (xs := p.fKeepers.dropLast)
    sty_Kpr (by decide) tLodKeeper_goodT tLodKeeper_one (by omega) (Nat.le_refl _) (by rfl) (by intro w; go_simp) X5.out.c0 (by rfl) HCY.out hlk5 rfl Tryz.underlying3 (by omega) (by rfl) (by decide) ?hcut Tryz.underlying45 rfl hSR hRW ?hlen (by decide) (by decide) (by simp) rfl (by kernel_rfl) (by decide) (by kernel_rfl) (by kernel_rfl) (by kernel_rfl) (by kernel_rfl) ?h2
   case hcut => intro wz; go_simp; intro hx; exact absurd (hx (by omega)) (by omega)
   case hlen => have := HN.out; rw [List.length_dropLast]; omega
   case h2 =>
    intro v0 v6 v8 w6 hb6 ht6 hs6
    simp only [qnr]
    have hz6 := hb6.size
    have X6 := qhd (X5.out.below hb6 X5.out.lt)
    have R6 := qhd (R5.out.below hb6 R5.out.lt)
    have TX6 := qhd (TX5.out.below hb6 X5.out.lt)
    have TR6 := qhd (TR5.out.below hb6 R5.out.lt)
    have RW6 : Hid (tLodKeeper lo w6 [.slice oa on oc, .slice ja jn jc] { k with fAsks := k.fAsks ++ [x] }) := qhd (tLodKeeper_goodT.stays _ _ _ _ _ (KeepsT.of_below hb6) RW5.out)
    have hF6 : Below w.heap.size w w6 := hF5.trans (hb6.mono hF5.size)
    have HLN : Hid (p.fKeepers.dropLast.length + 1 ≤ 1000000) := qhd (by have := HN.out; rw [List.length_dropLast]; omega)
    clear X5 R5 K5 TX5 TR5 RW5 HCY hSR hRW hlk5 hF5 hb6
    go_wp2_with (refine wpList_append_FC (B := W5.heap.size) (lo := lo) (xs := p.fKeepers.dropLast) (ys := [{ k with fAsks := k.fAsks ++ [x] }]) (cx := cs) (css := [[.slice oa on oc, .slice ja jn jc]]) (E := ELodKeeper) (by rfl) (.tmp 113) (.tmp 115) 23 (by rfl) sty_Kpr tLodKeeper_goodT ELodKeeper_not tLodKeeper_one (by rfl) (by rfl) ht6 hs6 (Rows.one rfl RW6.out) HLN.out (by omega) (by omega) ?_)
    intro v9 w7 ht7 hb7 hg7 hk7 hat7
    have X7 := X6.out.below hb7 (by omega)
    have R7 := R6.out.below hb7 (by omega)
    have TX7 := qhd (TX6.out.below hb7 (by omega))
    have TR7 := qhd (TR6.out.below hb7 (by omega))
    have hF7 : Below w.heap.size w w7 := hF6.trans (hb7.mono (by omega))
    obtain ⟨qa, qc, rfl, _, _⟩ := own_form ht7.owns
    have HPN : Hid (PlanC lo w7 (.slice qa (p.fKeepers.dropLast ++ [{ k with fAsks := k.fAsks ++ [x] }]).length qc) (cs ++ [[.slice oa on oc, .slice ja jn jc]]) ⟨p.fKeepers.dropLast ++ [{ k with fAsks := k.fAsks ++ [x] }]⟩) := qhd ⟨ht7.rows, ht7.owns, HPC.out.apart.init.snoc fun o' a' hm => ⟨(HPC.out.apart.last hm).1, fun b hb => fun hb2 => by
     have h9 := (HPC.out.lt (List.mem_append_left _ hm)).2 b hb
     have h8 := HO4.out b hb2
     omega⟩⟩
    obtain ⟨qn, hqn⟩ : ∃ n, (p.fKeepers.dropLast ++ [{ k with fAsks := k.fAsks ++ [x] }]).length = n := ⟨_, rfl⟩
    rw [hqn] at HPN
    try rw [hqn]
    have hMB := MB.out
    clear ht6 hs6 ht7 hb7 hg7 hk7 hat7 X6 R6 TX6 TR6 RW6 HLN hqn hF6
    obtain ⟨lx, x0, f0⟩ := X7
    obtain ⟨lr, r0, o0⟩ := R7
    go_wp2
    all_goals
     refine bodyPost_ret (v := ?_) ?hrun rfl ?_
     case hrun => (simp only [results, Tryz.results75]; go_simp; first | done | exact rfl)
     refine HR.out _ _ ⟨.slice qa qn qc, ?_, ?_, bbel⟩
     ·rw [IV.out]
      first | rfl | (rw [← hMB]; rfl) | (simp [*])
     ·rw [IV.out]
      have TX := TX7.out
      have TR := TR7.out
      exact TPlan.keeps (show TPlan lo w7 _ _ from ⟨_, HPN.out⟩) (by (repeat' (first | (with_reducible exact KeepsT.refl _ _ _) | (with_reducible assumption) | (with_reducible refine KeepsT.allocB ?_ _) | (with_reducible refine KeepsT.drewB ?_) | (with_reducible refine KeepsT.setB ?_ ?_ (EPlan_plan) _) | ((with_reducible refine TypeAt.new' _ _ _ _ ?_); simp; done) | (with_reducible refine TypeAt.alloc ?_ _) | (with_reducible refine TypeAt.set ?_ _ _) | (with_reducible refine TypeAt.drew ?_))))

theorem clsRead_nil (ws : List ByteArray) : (clsRead ws).1.fFields = [] ∧ (clsRead ws).1.fMethods = [] := by
 unfold clsRead
 split
 ·split <;> exact ⟨rfl, rfl⟩
 ·exact ⟨rfl, rfl⟩

theorem S_l8Line_class (p : DLodPlan) (k : DLodKeeper) (v : Value) (line : ByteArray) (lo : Nat) (w : World) (hlo : lo ≤ w.heap.size) (hp : TPlan lo w v p) (hs : SmallP 10000 p) (hline : line.size ≤ 10000) (hk : isW line tKeeper = false) (hl : p.fKeepers.getLast? = some k)
  (w0 : ByteArray) (h0 : (words line)[0]? = some w0) (hk1 : isW w0 tAsks = false) (hk2 : isW w0 tClass = true) :
  Calls Tryz.prog 75 #[.agg #[v], .string line] w fun e w' => LinePost p line lo w e w' := by
 have IV := qhd (lineR_some (p := p) hk hl (lastLine_class (k := k) (line := line) (by rw [List.getD_eq_getElem?_getD, h0]; rfl) hk1 hk2))
 have hk' := qaw hk
 have hk1' := qaw hk1
 have hk2' := isW_true hk2
 unfold tKeeper at hk'
 unfold tAsks at hk1'
 unfold tClass at hk2'
 obtain ⟨css, hpc⟩ := hp
 have hmem : k ∈ p.fKeepers := List.mem_of_getLast? hl
 have hne : 0 < p.fKeepers.length := List.length_pos_iff.2 (List.ne_nil_of_mem hmem)
 obtain ⟨kb, kc, vo, va, cs, rfl, hkb, hkc, hmx, hrng, hkr, rfl, hsrc, hrow⟩ := hpc.last hl
 obtain ⟨y1, y2, e0, t1, t2⟩ := id hkr
 cases e0
 obtain ⟨oa, oc, rfl, _, _⟩ := t1.form
 obtain ⟨aa, ac, rfl, _, _⟩ := t2.form
 have hAs : k.fOwns.length ≤ 10000 := hs.owns k hmem
 have hPl : p.fKeepers.length ≤ 10000 := hs.kprs
 obtain ⟨x, ok, hx⟩ : ∃ a b, clsRead (words line) = (a, b) := ⟨_, _, rfl⟩
 rw [hx] at IV
 obtain ⟨n, hn⟩ : ∃ n, p.fKeepers.length = n := ⟨_, rfl⟩
 obtain ⟨on, hon⟩ : ∃ n, k.fOwns.length = n := ⟨_, rfl⟩
 obtain ⟨an, han⟩ : ∃ n, k.fAsks.length = n := ⟨_, rfl⟩
 have HN := qhd hn
 have HON := qhd hon
 rw [hn] at hne hkc hrng hsrc hPl ⊢
 rw [hon] at hkr t1 hrng hpc hAs
 rw [han] at hkr hrng hpc t2
 have HPC := qhd hpc
 have HRNG := qhd hrng
 have HKR := qhd hkr
 have HSRC := qhd hsrc
 have HROW := qhd hrow
 have T2 := qhd t2
 have T1 := qhd t1
 have HIM : Hid ((Tryz.prog.info? 45).map (·.size) = some 2) := qhd (by kernel_rfl)
 have MB : Hid (((on : Int) == 0) = decide (on = 0)) := qhd (by rw [Bool.eq_iff_iff]; simp)
 have hnn : ((n : Int) == 0) = false := by rw [beq_eq_false_iff_ne]; omega
 have hgc : kc ≤ 9223372036854775807 := by unfold maxLen at hmx; omega
 have HX := qhd hx
 have HXR : Hid (∀ lo w, tClsClass lo w [.string x.fName, .string x.fSuper, .slice none 0 0, .slice none 0 0] x) := qhd fun lo w => by
  have h9 := clsRead_size (ws := words line) (fun y hy => Nat.le_trans (words_size hy) hline)
  have h8 := clsRead_nil (words line)
  rw [hx] at h9 h8
  have h91 : x.fName.size ≤ 10000 := h9.1
  have h92 : x.fSuper.size ≤ 10000 := h9.2
  have h81 : x.fFields = [] := h8.1
  have h82 : x.fMethods = [] := h8.2
  exact ⟨_, _, rfl, by rw [h81]; exact TSl.nil, by rw [h82]; exact TSl.nil, by unfold maxLen; omega, by unfold maxLen; omega⟩
 clear hk hk1 hk2 hl hs hpc hmem hrng hkr hsrc hrow t1 t2 hx hn hon han hmx
 refine qab fun R HR => ?_
 go_enter Tryz.func75, Tryz.ntmps75
 go_wp2_with fail
 refine (S_l1Words line _ hline).mono ?_
 rintro _ w1 ⟨vw, rfl, hvw, h1⟩
 obtain ⟨g, wc, hwd⟩ := wds_of hvw hline
 have X1 : Hid (One1 w1 w.heap.size (.slice (some ⟨kb, 0, none⟩) n kc)) := qhd (by refine One1.below ?_ h1 (by (first | omega | (simp; done) | (simp; omega))); refine ⟨by (first | omega | (simp; done) | (simp; omega)), ?_, ?_⟩ <;> go_simp)
 have R1 : Hid (One1 w1 (w.heap.size + 1) (.slice none 0 0)) := qhd (by refine One1.below ?_ h1 (by (first | omega | (simp; done) | (simp; omega))); refine ⟨by (first | omega | (simp; done) | (simp; omega)), ?_, ?_⟩ <;> go_simp)
 have TX1 : Hid (TypeAt w1 w.heap.size 25) := qhd (by refine TypeAt.below ?_ h1 (by (first | omega | (simp; done) | (simp; omega))); (repeat' (first | (with_reducible assumption) | ((with_reducible refine TypeAt.new' _ _ _ _ ?_); simp; done) | (with_reducible refine TypeAt.alloc ?_ _) | (with_reducible refine TypeAt.set ?_ _ _) | (with_reducible refine TypeAt.drew ?_))))
 have TR1 : Hid (TypeAt w1 (w.heap.size + 1) 25) := qhd (by refine TypeAt.below ?_ h1 (by (first | omega | (simp; done) | (simp; omega))); (repeat' (first | (with_reducible assumption) | ((with_reducible refine TypeAt.new' _ _ _ _ ?_); simp; done) | (with_reducible refine TypeAt.alloc ?_ _) | (with_reducible refine TypeAt.set ?_ _ _) | (with_reducible refine TypeAt.drew ?_))))
 have hE1 : Below w.heap.size w w1 := bbel
 have hz1 := hE1.size
 have HR1 := qhd (range_below HRNG.out hE1 hkb)
 have CF : ∀ W, Below w1.heap.size w1 W → Calls Tryz.prog 95 #[vw] W fun e w' => e = .returned (.tuple #[.agg #[.string x.fName, .string x.fSuper, .slice none 0 0, .slice none 0 0], .bool ok]) ∧ Below W.heap.size W w' := fun W hb => (S_l8ReadClass vw (words line) g wc W (hwd.below hb)).mono fun e w' h => ⟨h.1.trans (by rw [HX.out]; rfl), h.2⟩
 have c0 := hwd.cell 0 w0 h0
 have hv := hwd.val
 have hpos := hwd.pos
 have hg : g < w1.heap.size := block_lt_of_cell c0
 subst hv
 have hlx := X1.out.lt
 have hlr := R1.out.lt
 have x0 := X1.out.c0
 have hi1 : (1 : Int) ≤ (n : Int) := by omega
 have hi2 : (n : Int) - 1 ≤ (kc : Int) := by omega
 have hi3 : ¬ ((kc : Int) < (n : Int) - 1) := by omega
 have hi4 : (0 : Int) ≤ (n : Int) - 1 := by omega
 clear h1 hwd h0 hvw HRNG HX
 go_wp2_with (refine wpList_load_mid (by rfl) 45 (.tmp 41) (by rfl) kb ((n - 1) * 2) ?hx [.slice oa on oc, .slice aa an ac] _ ?hr Tryz.underlying45 (by rfl) HIM.out ?_)
 case hx => rfl
 case hr => exact HR1.out
 refine (CF _ (bbel)).mono ?_
 rintro _ w2 ⟨rfl, h2⟩
 have K2 : Hid (Four2 w2 w1.heap.size (.slice oa on oc) (.slice aa an ac)) := qhd (by refine Four2.below ?_ h2 (by (first | omega | (simp; done) | (simp; omega))); refine ⟨by (first | omega | (simp; done) | (simp; omega)), ?_, ?_, ?_, ?_⟩ <;> go_simp)
 have TK2 : Hid (TypeAt w2 w1.heap.size 45) := qhd (by refine TypeAt.below ?_ h2 (by (first | omega | (simp; done) | (simp; omega))); (repeat' (first | (with_reducible assumption) | ((with_reducible refine TypeAt.new' _ _ _ _ ?_); simp; done) | (with_reducible refine TypeAt.alloc ?_ _) | (with_reducible refine TypeAt.set ?_ _ _) | (with_reducible refine TypeAt.drew ?_))))
 have hE2 : Below w1.heap.size w1 w2 := bbel
 have X2 := qhd (X1.out.below hE2 hlx)
 have R2 := qhd (R1.out.below hE2 hlr)
 have TX2 := qhd (TX1.out.below hE2 hlx)
 have TR2 := qhd (TR1.out.below hE2 hlr)
 have hF2 : Below w.heap.size w w2 := hE1.trans (hE2.mono hz1)
 have hz2 := h2.size
 (try simp only [World.size_alloc, World.size_setCell] at hz2)
 obtain ⟨cssx, hsx, hrx⟩ := (TSl.below tClsClass_goodT T1.out hF2).src
 have HSX := qhd hsx
 have HRX := qhd hrx
 have hlk := K2.out.lt
 have k0 := K2.out.c0
 clear h2 hE1 hE2 CF X1 R1 TX1 TR1 hsx hrx c0 HR1 hi1 hi2 hi3 hi4 x0 T1 hz1
 cases ok
 all_goals
  go_wp2_with fail
  have hal : k.fOwns.length ≤ 10000 := by rw [HON.out]; exact hAs
  refine wp_app2 (css := cssx) (B := w2.heap.size + 1) (lo := lo) (R := tClsClass) (E := EClsClass) (bx := w1.heap.size) (fx := 0) (cy := w2.heap.size) (src := .slice oa on oc) (csy := [.string x.fName, .string x.fSuper, .slice none 0 0, .slice none 0 0]) (xs := k.fOwns) sty_Cls (by decide) tClsClass_goodT tClsClass_one (by first | omega | (simp; omega)) (by (first | omega | (simp; done) | (simp; omega))) (by rfl) (by intro w; go_simp) ?hcx (by rfl) ?hcy (by (first | omega | (simp; done) | (simp; omega))) rfl Tryz.underlying37 rfl ?hsrc ?hrow ?hlen (by decide) (by decide) (by simp) rfl (by kernel_rfl) (by decide) (by kernel_rfl) (by kernel_rfl) (by kernel_rfl) (by kernel_rfl) ?h
  case hcy => (intro j u hj; match j, hj with | 0, hj => cases hj; go_simp | 1, hj => cases hj; go_simp | 2, hj => cases hj; go_simp | 3, hj => cases hj; go_simp | j + 4, hj => simp at hj)
  case hsrc => exact (HSX.out).kept (bbel)
  case hrow => exact (HRX.out).mono fun cs x hx => (tClsClass_goodT).stays _ _ _ _ _ (KeepsT.of_below (bbel)) hx
  case hlen => omega
  case hcx => have := K2.out.c0; go_simp
  case h =>
   intro v0 v3 v5 w3 hb3 ht3 hs3
   simp only [qnr]
   have hz3 := hb3.size
   simp only [World.size_alloc] at hz3
   have hE3 : Below w2.heap.size w2 w3 := bbel
   have HX3 : Hid (tClsClass lo w3 [.string x.fName, .string x.fSuper, .slice none 0 0, .slice none 0 0] x) := qhd (HXR.out lo w3)
   clear hb3 k0
   go_wp2_with (refine qam (B := w2.heap.size + 1) (lo := lo) (xs := k.fOwns) (ys := [x]) (css := [[.string x.fName, .string x.fSuper, .slice none 0 0, .slice none 0 0]]) (E := EClsClass) (by rfl) (.tmp 102) (.tmp 104) 42 (by rfl) sty_Cls tClsClass_goodT EClsClass_not tClsClass_one (by rfl) (by rfl) ht3 hs3 (Rows.one rfl HX3.out) (by simp; omega) (by omega) (by omega) ?_)
   intro v6 w4 ht4 hb4 hg4 hk4 hat4
   have hE4 : Below w2.heap.size w2 w4 := hE3.trans (hb4.mono (by omega))
   have X4 := qhd (X2.out.below hE4 (by omega))
   have R4 := qhd (R2.out.below hE4 (by omega))
   have K4 := qhd (K2.out.below hE4 hlk)
   have TX4 := qhd (TX2.out.below hE4 (by omega))
   have TR4 := qhd (TR2.out.below hE4 (by omega))
   have TK4 := qhd (TK2.out.below hE4 hlk)
   have hF4 : Below w.heap.size w w4 := hF2.trans (hE4.mono hF2.size)
   have HO4 : Hid (∀ b, v6.ownBlock = some b → w.heap.size ≤ b) := qhd fun b hb => by have := ht4.own b hb; omega
   obtain ⟨ja, jn, jc, rfl⟩ := ht4.sl.form3
   have hz4 := hE4.size
   clear ht3 hs3 hb4 hg4 hk4 hat4 X2 R2 K2 TX2 TR2 TK2 HX3 hE3 HSX HRX hz3 hE4
   have k1 := K4.out.c0
   have f1 := K4.out.f0
   go_wp2_with fail
   obtain ⟨W5, hW5⟩ : ∃ W, W = w4.setCell ⟨w1.heap.size, 0, none⟩ (.slice ja jn jc) := ⟨_, rfl⟩
   rw [← hW5]
   have X5 : Hid (One1 W5 w.heap.size (.slice (some ⟨kb, 0, none⟩) n kc)) := qhd (by rw [hW5]; exact X4.out.set_other (by omega))
   have R5 : Hid (One1 W5 (w.heap.size + 1) (.slice none 0 0)) := qhd (by rw [hW5]; exact R4.out.set_other (by omega))
   have K5 : Hid (Four2 W5 w1.heap.size (.slice ja jn jc) (.slice aa an ac)) := qhd (by rw [hW5]; exact K4.out.set0)
   have TX5 : Hid (TypeAt W5 w.heap.size 25) := qhd (by rw [hW5]; exact TX4.out.set _ _)
   have TR5 : Hid (TypeAt W5 (w.heap.size + 1) 25) := qhd (by rw [hW5]; exact TR4.out.set _ _)
   have hF5 : Below w.heap.size w W5 := by rw [hW5]; exact bbel
   have TA5 := ht4.sl.stays (E := ELodKeeper) (tClsClass_goodT.mono EClsClass_LodKeeper) (by unfold ELodKeeper; simp) (w' := W5) (by rw [hW5]; exact KeepsT.set TK4.out ELodKeeper_not)
   have TO5 := TSl.below rLodAsk_goodT T2.out hF5
   have RW5 : Hid (tLodKeeper lo W5 [.slice ja jn jc, .slice aa an ac] { k with fOwns := k.fOwns ++ [x] }) := qhd ⟨_, _, rfl, TA5, TO5⟩
   have hz5 : w.heap.size + 3 ≤ W5.heap.size := by rw [hW5]; simp [World.setCell]; omega
   clear hW5 X4 R4 K4 TX4 TR4 TK4 ht4 hF4 TA5 TO5 k1 f1 hz4 hz2
   have hlk5 := K5.out.lt
   have HCY : Hid (World.rangeAt W5 w1.heap.size 0 [.slice ja jn jc, .slice aa an ac]) := qhd (by have c0 := K5.out.c0; have c1 := K5.out.c1; (intro j u hj; match j, hj with | 0, hj => cases hj; go_simp | 1, hj => cases hj; go_simp | j + 2, hj => simp at hj))
   have hSR := HSRC.out.kept hF5
   have hRW := HROW.out.mono fun cs x hx => tLodKeeper_goodT.stays _ _ _ _ _ (KeepsT.of_below hF5) hx
   go_wp2_with fail
   refine wp_app3C (css := cs) (B := W5.heap.size) (lo := lo) (R := tLodKeeper) (E := ELodKeeper) (bx := w.heap.size) (fx := 0) (cy := w1.heap.size) (src := .slice (some ⟨kb, 0, none⟩) n kc) (src2 := .slice (some ⟨kb, 0, none⟩) (n - 1) kc) (nm := (n : Int)) (csy := [.slice ja jn jc, .slice aa an ac]) (xs := p.fKeepers.dropLast)
    sty_Kpr (by decide) tLodKeeper_goodT tLodKeeper_one (by omega) (Nat.le_refl _) (by rfl) (by intro w; go_simp) X5.out.c0 (by rfl) HCY.out hlk5 rfl Tryz.underlying3 (by omega) (by rfl) (by decide) ?hcut Tryz.underlying45 rfl hSR hRW ?hlen (by decide) (by decide) (by simp) rfl (by kernel_rfl) (by decide) (by kernel_rfl) (by kernel_rfl) (by kernel_rfl) (by kernel_rfl) ?h2
   case hcut => intro wz; go_simp; intro hx; exact absurd (hx (by omega)) (by omega)
   case hlen => have := HN.out; rw [List.length_dropLast]; omega
   case h2 =>
    intro v0 v6 v8 w6 hb6 ht6 hs6
    simp only [qnr]
    have hz6 := hb6.size
    have X6 := qhd (X5.out.below hb6 X5.out.lt)
    have R6 := qhd (R5.out.below hb6 R5.out.lt)
    have TX6 := qhd (TX5.out.below hb6 X5.out.lt)
    have TR6 := qhd (TR5.out.below hb6 R5.out.lt)
    have RW6 : Hid (tLodKeeper lo w6 [.slice ja jn jc, .slice aa an ac] { k with fOwns := k.fOwns ++ [x] }) := qhd (tLodKeeper_goodT.stays _ _ _ _ _ (KeepsT.of_below hb6) RW5.out)
    have hF6 : Below w.heap.size w w6 := hF5.trans (hb6.mono hF5.size)
    have HLN : Hid (p.fKeepers.dropLast.length + 1 ≤ 1000000) := qhd (by have := HN.out; rw [List.length_dropLast]; omega)
    clear X5 R5 K5 TX5 TR5 RW5 HCY hSR hRW hlk5 hF5 hb6
    go_wp2_with (refine wpList_append_FC (B := W5.heap.size) (lo := lo) (xs := p.fKeepers.dropLast) (ys := [{ k with fOwns := k.fOwns ++ [x] }]) (cx := cs) (css := [[.slice ja jn jc, .slice aa an ac]]) (E := ELodKeeper) (by rfl) (.tmp 113) (.tmp 115) 23 (by rfl) sty_Kpr tLodKeeper_goodT ELodKeeper_not tLodKeeper_one (by rfl) (by rfl) ht6 hs6 (Rows.one rfl RW6.out) HLN.out (by omega) (by omega) ?_)
    intro v9 w7 ht7 hb7 hg7 hk7 hat7
    have X7 := X6.out.below hb7 (by omega)
    have R7 := R6.out.below hb7 (by omega)
    have TX7 := qhd (TX6.out.below hb7 (by omega))
    have TR7 := qhd (TR6.out.below hb7 (by omega))
    have hF7 : Below w.heap.size w w7 := hF6.trans (hb7.mono (by omega))
    obtain ⟨qa, qc, rfl, _, _⟩ := own_form ht7.owns
    have HPN : Hid (PlanC lo w7 (.slice qa (p.fKeepers.dropLast ++ [{ k with fOwns := k.fOwns ++ [x] }]).length qc) (cs ++ [[.slice ja jn jc, .slice aa an ac]]) ⟨p.fKeepers.dropLast ++ [{ k with fOwns := k.fOwns ++ [x] }]⟩) := qhd ⟨ht7.rows, ht7.owns, HPC.out.apart.init.snoc fun o' a' hm => ⟨fun b hb => fun hb2 => by
     have h9 := (HPC.out.lt (List.mem_append_left _ hm)).1 b hb
     have h8 := HO4.out b hb2
     omega, (HPC.out.apart.last hm).2⟩⟩
    obtain ⟨qn, hqn⟩ : ∃ n, (p.fKeepers.dropLast ++ [{ k with fOwns := k.fOwns ++ [x] }]).length = n := ⟨_, rfl⟩
    rw [hqn] at HPN
    try rw [hqn]
    have hMB := MB.out
    clear ht6 hs6 ht7 hb7 hg7 hk7 hat7 X6 R6 TX6 TR6 RW6 HLN hqn hF6
    obtain ⟨lx, x0, f0⟩ := X7
    obtain ⟨lr, r0, o0⟩ := R7
    go_wp2
    all_goals
     refine bodyPost_ret (v := ?_) ?hrun rfl ?_
     case hrun => (simp only [results, Tryz.results75]; go_simp; first | done | exact rfl)
     refine HR.out _ _ ⟨.slice qa qn qc, ?_, ?_, bbel⟩
     ·rw [IV.out]
     ·rw [IV.out]
      have TX := TX7.out
      have TR := TR7.out
      exact TPlan.keeps (show TPlan lo w7 _ _ from ⟨_, HPN.out⟩) (by (repeat' (first | (with_reducible exact KeepsT.refl _ _ _) | (with_reducible assumption) | (with_reducible refine KeepsT.allocB ?_ _) | (with_reducible refine KeepsT.drewB ?_) | (with_reducible refine KeepsT.setB ?_ ?_ (EPlan_plan) _) | ((with_reducible refine TypeAt.new' _ _ _ _ ?_); simp; done) | (with_reducible refine TypeAt.alloc ?_ _) | (with_reducible refine TypeAt.set ?_ _ _) | (with_reducible refine TypeAt.drew ?_))))

theorem last_cls {lo : Nat} {w : World} {v : Value} {ms : List DClsClass} {m : DClsClass} (h : TSl 4 tClsClass 37 lo w v ms) (hm : ms.getLast? = some m) :
  ∃ (b cap : Nat) (vf vm : Value), v = .slice (some ⟨b, 0, none⟩) ms.length cap ∧ b < w.heap.size ∧ ms.length ≤ cap ∧ cap ≤ maxLen ∧
   w.rangeAt b ((ms.length - 1) * 4) [.string m.fName, .string m.fSuper, vf, vm] ∧ tClsClass lo w [.string m.fName, .string m.fSuper, vf, vm] m := by
 have hne : ms ≠ [] := fun e => by rw [e] at hm; cases hm
 have hpos : 0 < ms.length := List.length_pos_iff.2 hne
 have hi : ms[ms.length - 1]? = some m := by rw [← List.getLast?_eq_getElem?]; exact hm
 obtain ⟨css, h1, h2⟩ := h
 obtain ⟨b, cap, rfl, hb, hlt, hc, hmx, hcell, _⟩ := own_cell h2 hpos
 obtain ⟨cs, hcs⟩ : ∃ cs, css[ms.length - 1]? = some cs := ⟨_, List.getElem?_eq_getElem (by rw [h1.len]; omega)⟩
 obtain ⟨hk, hR⟩ := h1.row _ m cs hi hcs
 obtain ⟨vf, vm, rfl, s⟩ := id hR
 refine ⟨b, cap, vf, vm, rfl, hlt, hc, hmx, fun j u hj => ?_, hR⟩
 have hj4 : j < 4 := by have := (List.getElem?_eq_some_iff.1 hj).1; simpa using this
 exact hcell _ u ((flat_at h1.each hcs hj4).trans hj)
theorem Four.form {w : World} {b : Nat} {x0 x1 x2 x3 : Value} (h : Four w b x0 x1 x2 x3) : w.cell? ⟨b, 0, none⟩ = some x0 ∧ w.cell? ⟨b, 1, none⟩ = some x1 ∧ w.cell? ⟨b, 2, none⟩ = some x2 ∧ w.cell? ⟨b, 3, none⟩ = some x3 := ⟨h.c0, h.c1, h.c2, h.c3⟩

theorem S_l8Line_out (p : DLodPlan) (k : DLodKeeper) (v : Value) (line : ByteArray) (lo : Nat) (w : World) (hlo : lo ≤ w.heap.size) (hp : TPlan lo w v p) (hline : line.size ≤ 10000) (hk : isW line tKeeper = false) (hl : p.fKeepers.getLast? = some k)
  (w0 : ByteArray) (h0 : (words line)[0]? = some w0) (hk1 : isW w0 tAsks = false) (hk2 : isW w0 tClass = false) (hno : k.fOwns = []) :
  Calls Tryz.prog 75 #[.agg #[v], .string line] w fun e w' => LinePost p line lo w e w' := by
 have IV := qhd (lineR_out (p := p) hk hl (lastLine_none (k := k) (line := line) (by rw [List.getD_eq_getElem?_getD, h0]; rfl) hk1 hk2 (by rw [hno]; rfl)))
 have hk' := qaw hk
 have hk1' := qaw hk1
 have hk2' := qaw hk2
 unfold tKeeper at hk'
 unfold tAsks at hk1'
 unfold tClass at hk2'
 obtain ⟨css, hpc⟩ := hp
 have hmem : k ∈ p.fKeepers := List.mem_of_getLast? hl
 have hne : 0 < p.fKeepers.length := List.length_pos_iff.2 (List.ne_nil_of_mem hmem)
 obtain ⟨kb, kc, vo, va, cs, rfl, hkb, hkc, hmx, hrng, hkr, rfl, hsrc, hrow⟩ := hpc.last hl
 obtain ⟨y1, y2, e0, t1, t2⟩ := id hkr
 cases e0
 obtain ⟨oa, oc, rfl, _, _⟩ := t1.form
 obtain ⟨aa, ac, rfl, _, _⟩ := t2.form
 obtain ⟨n, hn⟩ : ∃ n, p.fKeepers.length = n := ⟨_, rfl⟩
 rw [hn] at hne hkc hrng ⊢
 rw [hno] at hrng hpc
 simp only [List.length_nil] at hrng hpc
 have HP := qhd hpc
 rw [hn] at HP
 have HRNG := qhd hrng
 have HIM : Hid ((Tryz.prog.info? 45).map (·.size) = some 2) := qhd (by kernel_rfl)
 have hnn : ((n : Int) == 0) = false := by rw [beq_eq_false_iff_ne]; omega
 have hgc : kc ≤ 9223372036854775807 := by unfold maxLen at hmx; omega
 clear hk hk1 hk2 hl hpc hmem hrng hkr hsrc hrow t1 t2 hn hmx hno
 refine qab fun R HR => ?_
 go_enter Tryz.func75, Tryz.ntmps75
 go_wp2_with fail
 refine (S_l1Words line _ hline).mono ?_
 rintro _ w1 ⟨vw, rfl, hvw, h1⟩
 obtain ⟨g, wc, hwd⟩ := wds_of hvw hline
 have X1 : Hid (One1 w1 w.heap.size (.slice (some ⟨kb, 0, none⟩) n kc)) := qhd (by refine One1.below ?_ h1 (by (first | omega | (simp; done) | (simp; omega))); refine ⟨by (first | omega | (simp; done) | (simp; omega)), ?_, ?_⟩ <;> go_simp)
 have R1 : Hid (One1 w1 (w.heap.size + 1) (.slice none 0 0)) := qhd (by refine One1.below ?_ h1 (by (first | omega | (simp; done) | (simp; omega))); refine ⟨by (first | omega | (simp; done) | (simp; omega)), ?_, ?_⟩ <;> go_simp)
 have TX1 : Hid (TypeAt w1 w.heap.size 25) := qhd (by refine TypeAt.below ?_ h1 (by (first | omega | (simp; done) | (simp; omega))); (repeat' (first | (with_reducible assumption) | ((with_reducible refine TypeAt.new' _ _ _ _ ?_); simp; done) | (with_reducible refine TypeAt.alloc ?_ _) | (with_reducible refine TypeAt.set ?_ _ _) | (with_reducible refine TypeAt.drew ?_))))
 have TR1 : Hid (TypeAt w1 (w.heap.size + 1) 25) := qhd (by refine TypeAt.below ?_ h1 (by (first | omega | (simp; done) | (simp; omega))); (repeat' (first | (with_reducible assumption) | ((with_reducible refine TypeAt.new' _ _ _ _ ?_); simp; done) | (with_reducible refine TypeAt.alloc ?_ _) | (with_reducible refine TypeAt.set ?_ _ _) | (with_reducible refine TypeAt.drew ?_))))
 have hE1 : Below w.heap.size w w1 := bbel
 have hz1 := hE1.size
 have HR1 := qhd (range_below HRNG.out hE1 hkb)
 have HP1 := qhd (HP.out.below hE1)
 have c0 := hwd.cell 0 w0 h0
 have hv := hwd.val
 have hpos := hwd.pos
 have hg : g < w1.heap.size := block_lt_of_cell c0
 subst hv
 have hlx := X1.out.lt
 have x0 := X1.out.c0
 have hi1 : (1 : Int) ≤ (n : Int) := by omega
 have hi2 : (n : Int) - 1 ≤ (kc : Int) := by omega
 have hi3 : ¬ ((kc : Int) < (n : Int) - 1) := by omega
 have hi4 : (0 : Int) ≤ (n : Int) - 1 := by omega
 have hlr := R1.out.lt
 have r0 := R1.out.c0
 have o0 := R1.out.f0
 clear h1 hwd h0 hvw HRNG
 go_wp2_with (refine wpList_load_mid (by rfl) 45 (.tmp 41) (by rfl) kb ((n - 1) * 2) ?hx [.slice oa 0 oc, .slice aa k.fAsks.length ac] _ ?hr Tryz.underlying45 (by rfl) HIM.out ?_)
 case hx => rfl
 case hr => exact HR1.out
 all_goals
  refine bodyPost_ret (v := ?_) ?hrun rfl ?_
  case hrun => (simp only [results, Tryz.results75]; go_simp; first | done | exact rfl)
  refine HR.out _ _ ⟨.slice (some ⟨kb, 0, none⟩) n kc, ?_, ?_, bbel⟩
  ·rw [IV.out]
  ·rw [IV.out]
   have TX := TX1.out
   have TR := TR1.out
   have HPP : TPlan lo w1 (.slice (some ⟨kb, 0, none⟩) n kc) p := ⟨_, HP1.out⟩
   exact TPlan.keeps HPP (by (repeat' (first | (with_reducible exact KeepsT.refl _ _ _) | (with_reducible assumption) | (with_reducible refine KeepsT.allocB ?_ _) | (with_reducible refine KeepsT.drewB ?_) | (with_reducible refine KeepsT.setB ?_ ?_ (EPlan_plan) _) | ((with_reducible refine TypeAt.new' _ _ _ _ ?_); simp; done) | (with_reducible refine TypeAt.alloc ?_ _) | (with_reducible refine TypeAt.set ?_ _ _) | (with_reducible refine TypeAt.drew ?_))))

theorem S_l8Line_inner (p : DLodPlan) (k : DLodKeeper) (c : DClsClass) (v : Value) (line : ByteArray) (lo : Nat) (w : World) (hlo : lo ≤ w.heap.size) (hp : TPlan lo w v p) (hs : SmallP 10000 p) (hline : line.size ≤ 10000) (hk : isW line tKeeper = false) (hl : p.fKeepers.getLast? = some k)
  (w0 : ByteArray) (h0 : (words line)[0]? = some w0) (hk1 : isW w0 tAsks = false) (hk2 : isW w0 tClass = false) (hcl : k.fOwns.getLast? = some c) :
  Calls Tryz.prog 75 #[.agg #[v], .string line] w fun e w' => LinePost p line lo w e w' := by
 have IV := qhd (lineR_some (p := p) hk hl (lastLine_inner (k := k) (line := line) (by rw [List.getD_eq_getElem?_getD, h0]; rfl) hk1 hk2 hcl))
 have hk' := qaw hk
 have hk1' := qaw hk1
 have hk2' := qaw hk2
 unfold tKeeper at hk'
 unfold tAsks at hk1'
 unfold tClass at hk2'
 obtain ⟨css, hpc⟩ := hp
 have hmem : k ∈ p.fKeepers := List.mem_of_getLast? hl
 have hne : 0 < p.fKeepers.length := List.length_pos_iff.2 (List.ne_nil_of_mem hmem)
 have hcm : c ∈ k.fOwns := List.mem_of_getLast? hcl
 have hnc : 0 < k.fOwns.length := List.length_pos_iff.2 (List.ne_nil_of_mem hcm)
 obtain ⟨kb, kc, vo, va, cs, rfl, hkb, hkc, hmx, hrng, hkr, rfl, hsrc, hrow⟩ := hpc.last hl
 obtain ⟨y1, y2, e0, t1, t2⟩ := id hkr
 cases e0
 obtain ⟨ob, oc, vf, vm, rfl, hob, hoc, hmo, hrngc, hcr⟩ := last_cls t1 hcl
 obtain ⟨aa, ac, rfl, _, _⟩ := t2.form
 have hAs : k.fOwns.length ≤ 10000 := hs.owns k hmem
 have hPl : p.fKeepers.length ≤ 10000 := hs.kprs
 have HSC := qhd (hs.clss k hmem c hcm)
 obtain ⟨x, ok, hx⟩ : ∃ a b, inner c line = (a, b) := ⟨_, _, rfl⟩
 rw [hx] at IV
 obtain ⟨n, hn⟩ : ∃ n, p.fKeepers.length = n := ⟨_, rfl⟩
 obtain ⟨on, hon⟩ : ∃ n, k.fOwns.length = n := ⟨_, rfl⟩
 obtain ⟨an, han⟩ : ∃ n, k.fAsks.length = n := ⟨_, rfl⟩
 have HN := qhd hn
 have HON := qhd hon
 rw [hn] at hne hkc hrng hsrc hPl ⊢
 rw [hon] at hkr t1 hrng hpc hAs hnc hoc hrngc
 rw [han] at hkr hrng hpc t2
 have HPC := qhd hpc
 have HRNG := qhd hrng
 have HRNC := qhd hrngc
 have HCR := qhd hcr
 have HSRC := qhd hsrc
 have HROW := qhd hrow
 have T2 := qhd t2
 have T1 := qhd t1
 have HIM : Hid ((Tryz.prog.info? 45).map (·.size) = some 2) := qhd (by kernel_rfl)
 have HIC : Hid ((Tryz.prog.info? 37).map (·.size) = some 4) := qhd (by kernel_rfl)
 have hoo : ((on : Int) == 0) = false := by rw [beq_eq_false_iff_ne]; omega
 have hnn : ((n : Int) == 0) = false := by rw [beq_eq_false_iff_ne]; omega
 have hgc : kc ≤ 9223372036854775807 := by unfold maxLen at hmx; omega
 have hgo : oc ≤ 9223372036854775807 := by unfold maxLen at hmo; omega
 have HX := qhd hx
 clear hk hk1 hk2 hl hs hpc hmem hrng hkr hsrc hrow t1 t2 hx hn hon han hmx hmo hrngc hcr hcl hcm
 refine qab fun R HR => ?_
 go_enter Tryz.func75, Tryz.ntmps75
 go_wp2_with fail
 refine (S_l1Words line _ hline).mono ?_
 rintro _ w1 ⟨vw, rfl, hvw, h1⟩
 obtain ⟨g, wc, hwd⟩ := wds_of hvw hline
 have X1 : Hid (One1 w1 w.heap.size (.slice (some ⟨kb, 0, none⟩) n kc)) := qhd (by refine One1.below ?_ h1 (by (first | omega | (simp; done) | (simp; omega))); refine ⟨by (first | omega | (simp; done) | (simp; omega)), ?_, ?_⟩ <;> go_simp)
 have R1 : Hid (One1 w1 (w.heap.size + 1) (.slice none 0 0)) := qhd (by refine One1.below ?_ h1 (by (first | omega | (simp; done) | (simp; omega))); refine ⟨by (first | omega | (simp; done) | (simp; omega)), ?_, ?_⟩ <;> go_simp)
 have TX1 : Hid (TypeAt w1 w.heap.size 25) := qhd (by refine TypeAt.below ?_ h1 (by (first | omega | (simp; done) | (simp; omega))); (repeat' (first | (with_reducible assumption) | ((with_reducible refine TypeAt.new' _ _ _ _ ?_); simp; done) | (with_reducible refine TypeAt.alloc ?_ _) | (with_reducible refine TypeAt.set ?_ _ _) | (with_reducible refine TypeAt.drew ?_))))
 have TR1 : Hid (TypeAt w1 (w.heap.size + 1) 25) := qhd (by refine TypeAt.below ?_ h1 (by (first | omega | (simp; done) | (simp; omega))); (repeat' (first | (with_reducible assumption) | ((with_reducible refine TypeAt.new' _ _ _ _ ?_); simp; done) | (with_reducible refine TypeAt.alloc ?_ _) | (with_reducible refine TypeAt.set ?_ _ _) | (with_reducible refine TypeAt.drew ?_))))
 have hE1 : Below w.heap.size w w1 := bbel
 have hz1 := hE1.size
 have HR1 := qhd (range_below HRNG.out hE1 hkb)
 have CF : ∀ W, Below w1.heap.size w1 W → Calls Tryz.prog 96 #[.agg #[.string c.fName, .string c.fSuper, vf, vm], vw, .string line] W fun e w' => InnerPost c line lo W e w' := fun W hb => S_l8Inner c vf vm line vw g wc lo W (by have := hb.size; omega) (tClsClass_goodT.stays _ _ _ _ _ (KeepsT.of_below (hE1.trans (hb.mono hz1))) HCR.out) (hwd.below hb) HSC.out hline
 have c0 := hwd.cell 0 w0 h0
 have hv := hwd.val
 have hpos := hwd.pos
 have hg : g < w1.heap.size := block_lt_of_cell c0
 obtain ⟨vf1, vm1, e1, f1, m1, _⟩ := id HCR.out
 cases e1
 obtain ⟨xa, xn, xc, rfl⟩ := f1.form3
 obtain ⟨ya, yn, yc, rfl⟩ := m1.form3
 subst hv
 have hlx := X1.out.lt
 have hlr := R1.out.lt
 have x0 := X1.out.c0
 have hi1 : (1 : Int) ≤ (n : Int) := by omega
 have hi2 : (n : Int) - 1 ≤ (kc : Int) := by omega
 have hi3 : ¬ ((kc : Int) < (n : Int) - 1) := by omega
 have hi4 : (0 : Int) ≤ (n : Int) - 1 := by omega
 have ho1 : (1 : Int) ≤ (on : Int) := by omega
 have ho2 : (on : Int) - 1 ≤ (oc : Int) := by omega
 have ho3 : ¬ ((oc : Int) < (on : Int) - 1) := by omega
 have ho4 : (0 : Int) ≤ (on : Int) - 1 := by omega
 clear h1 hwd h0 hvw HRNG f1 m1
 go_wp2_with (first | (refine wpList_load_mid (by rfl) 45 (.tmp 41) (by rfl) kb ((n - 1) * 2) ?hx [.slice (some ⟨ob, 0, none⟩) on oc, .slice aa an ac] _ ?hr Tryz.underlying45 (by rfl) HIM.out ?_) | (refine wpList_load_mid (by rfl) 37 (.tmp 58) (by rfl) ob ((on - 1) * 4) ?hx2 [.string c.fName, .string c.fSuper, .slice xa xn xc, .slice ya yn yc] _ ?hr2 Tryz.underlying37 (by rfl) HIC.out ?_))
 case hx => rfl
 case hr => exact HR1.out
 case hx2 => rfl
 case hr2 => exact range_below HRNC.out (bbel : Below w.heap.size w _) hob
 refine (CF _ (bbel)).mono ?_
 rintro _ w2 hpost
 unfold InnerPost at hpost
 rw [HX.out] at hpost
 obtain ⟨u1, u2, rfl, hxr, h2⟩ := hpost
 obtain ⟨z1, z2, e2, q1, q2, _⟩ := id hxr
 cases e2
 obtain ⟨pa, pn, pc, rfl⟩ := q1.form3
 obtain ⟨ra, rn, rc, rfl⟩ := q2.form3
 have HXR := qhd hxr
 have K2 : Hid (Four2 w2 w1.heap.size (.slice (some ⟨ob, 0, none⟩) on oc) (.slice aa an ac)) := qhd (by refine Four2.below ?_ h2 (by (first | omega | (simp; done) | (simp; omega))); refine ⟨by (first | omega | (simp; done) | (simp; omega)), ?_, ?_, ?_, ?_⟩ <;> go_simp)
 have TK2 : Hid (TypeAt w2 w1.heap.size 45) := qhd (by refine TypeAt.below ?_ h2 (by (first | omega | (simp; done) | (simp; omega))); (repeat' (first | (with_reducible assumption) | ((with_reducible refine TypeAt.new' _ _ _ _ ?_); simp; done) | (with_reducible refine TypeAt.alloc ?_ _) | (with_reducible refine TypeAt.set ?_ _ _) | (with_reducible refine TypeAt.drew ?_))))
 have hE2 : Below w1.heap.size w1 w2 := bbel
 have X2 := qhd (X1.out.below hE2 hlx)
 have R2 := qhd (R1.out.below hE2 hlr)
 have TX2 := qhd (TX1.out.below hE2 hlx)
 have TR2 := qhd (TR1.out.below hE2 hlr)
 have hF2 : Below w.heap.size w w2 := hE1.trans (hE2.mono hz1)
 have hz2 := h2.size
 (try simp only [World.size_alloc, World.size_setCell] at hz2)
 have hlk := K2.out.lt
 have k0 := K2.out.c0
 have k1 := K2.out.c1
 have ff0 := K2.out.f0
 have ff1 := K2.out.f1
 have CL : Hid (∀ W, Below w2.heap.size w2 W → Calls Tryz.prog 97 #[.agg #[.slice (some ⟨ob, 0, none⟩) on oc, .slice aa an ac], .agg #[.string x.fName, .string x.fSuper, .slice pa pn pc, .slice ra rn rc]] W fun e w' => ∃ v', e = .returned (.agg #[v', .slice aa an ac]) ∧ TOwn 4 tClsClass 37 lo W.heap.size w' v' (k.fOwns.dropLast ++ [x]) ∧ Below W.heap.size W w') := qhd fun W hb => S_l8Last k.fOwns x _ _ _ _ lo W (by have := hb.size; omega) (TSl.below tClsClass_goodT T1.out (hF2.trans (hb.mono hF2.size))) (by rw [HON.out]; exact hnc) (by rw [HON.out]; exact hAs) aa an ac rfl (tClsClass_goodT.stays _ _ _ _ _ (KeepsT.of_below hb) HXR.out)
 clear h2 hE1 hE2 CF X1 R1 TX1 TR1 c0 HR1 hi1 hi2 hi3 hi4 ho1 ho2 ho3 ho4 x0 hz1 q1 q2 hxr
 cases ok
 all_goals
  go_wp2_with fail
  refine (CL.out _ (bbel)).mono ?_
  rintro _ w4 ⟨u3, rfl, ht4, h4⟩
  obtain ⟨ja, jn, jc, rfl⟩ := ht4.sl.form3
  have hE4 : Below w2.heap.size w2 w4 := bbel
  have X4 := qhd (X2.out.below hE4 (by omega))
  have R4 := qhd (R2.out.below hE4 (by omega))
  have K4 := qhd (K2.out.below hE4 hlk)
  have TX4 := qhd (TX2.out.below hE4 (by omega))
  have TR4 := qhd (TR2.out.below hE4 (by omega))
  have TK4 := qhd (TK2.out.below hE4 hlk)
  have hF4 : Below w.heap.size w w4 := hF2.trans (hE4.mono hF2.size)
  have hz4 := hE4.size
  have HO4 : Hid (∀ b, (Value.slice ja jn jc).ownBlock = some b → w.heap.size ≤ b) := qhd fun b hb => by
   have h9 := ht4.own b hb
   simp only [World.size_alloc] at h9
   omega
  have HT4 := qhd ht4.sl
  have k0 := K4.out.c0
  have k1 := K4.out.c1
  have ff0 := K4.out.f0
  have ff1 := K4.out.f1
  clear ht4 h4 X2 R2 K2 TX2 TR2 TK2 CL hE4
  go_wp2_with fail
  obtain ⟨W5, hW5⟩ : ∃ W, W = (w4.setCell ⟨w1.heap.size, 0, none⟩ (.slice ja jn jc)).setCell ⟨w1.heap.size, 1, none⟩ (.slice aa an ac) := ⟨_, rfl⟩
  rw [← hW5]
  have X5 : Hid (One1 W5 w.heap.size (.slice (some ⟨kb, 0, none⟩) n kc)) := qhd (by rw [hW5]; exact (X4.out.set_other (by omega)).set_other (by omega))
  have R5 : Hid (One1 W5 (w.heap.size + 1) (.slice none 0 0)) := qhd (by rw [hW5]; exact (R4.out.set_other (by omega)).set_other (by omega))
  have K5 : Hid (Four2 W5 w1.heap.size (.slice ja jn jc) (.slice aa an ac)) := qhd (by rw [hW5]; exact K4.out.set0.set1)
  have TX5 : Hid (TypeAt W5 w.heap.size 25) := qhd (by rw [hW5]; exact (TX4.out.set _ _).set _ _)
  have TR5 : Hid (TypeAt W5 (w.heap.size + 1) 25) := qhd (by rw [hW5]; exact (TR4.out.set _ _).set _ _)
  have hF5 : Below w.heap.size w W5 := by rw [hW5]; exact bbel
  have TA5 := HT4.out.stays (E := ELodKeeper) (tClsClass_goodT.mono EClsClass_LodKeeper) (by unfold ELodKeeper; simp) (w' := W5) (by rw [hW5]; exact (KeepsT.set TK4.out ELodKeeper_not).trans (KeepsT.set (TK4.out.set _ _) ELodKeeper_not))
  have TO5 := TSl.below rLodAsk_goodT T2.out hF5
  have RW5 : Hid (tLodKeeper lo W5 [.slice ja jn jc, .slice aa an ac] { k with fOwns := k.fOwns.dropLast ++ [x] }) := qhd ⟨_, _, rfl, TA5, TO5⟩
  have hz5 : w.heap.size + 3 ≤ W5.heap.size := by rw [hW5]; simp [World.setCell]; omega
  clear hW5 X4 R4 K4 TX4 TR4 TK4 HT4 hF4 TA5 TO5 k0 k1 ff0 ff1 hz4 hz2
  have hlk5 := K5.out.lt
  have HCY : Hid (World.rangeAt W5 w1.heap.size 0 [.slice ja jn jc, .slice aa an ac]) := qhd (by have c0 := K5.out.c0; have c1 := K5.out.c1; (intro j u hj; match j, hj with | 0, hj => cases hj; go_simp | 1, hj => cases hj; go_simp | j + 2, hj => simp at hj))
  have hSR := HSRC.out.kept hF5
  have hRW := HROW.out.mono fun cs x hx => tLodKeeper_goodT.stays _ _ _ _ _ (KeepsT.of_below hF5) hx
  go_wp2_with fail
  refine wp_app3C (css := cs) (B := W5.heap.size) (lo := lo) (R := tLodKeeper) (E := ELodKeeper) (bx := w.heap.size) (fx := 0) (cy := w1.heap.size) (src := .slice (some ⟨kb, 0, none⟩) n kc) (src2 := .slice (some ⟨kb, 0, none⟩) (n - 1) kc) (nm := (n : Int)) (csy := [.slice ja jn jc, .slice aa an ac]) (xs := p.fKeepers.dropLast)
   sty_Kpr (by decide) tLodKeeper_goodT tLodKeeper_one (by omega) (Nat.le_refl _) (by rfl) (by intro w; go_simp) X5.out.c0 (by rfl) HCY.out hlk5 rfl Tryz.underlying3 (by omega) (by rfl) (by decide) ?hcut Tryz.underlying45 rfl hSR hRW ?hlen (by decide) (by decide) (by simp) rfl (by kernel_rfl) (by decide) (by kernel_rfl) (by kernel_rfl) (by kernel_rfl) (by kernel_rfl) ?h2
  case hcut => intro wz; go_simp; intro hx; exact absurd (hx (by omega)) (by omega)
  case hlen => have := HN.out; rw [List.length_dropLast]; omega
  case h2 =>
   intro v0 v6 v8 w6 hb6 ht6 hs6
   simp only [qnr]
   have hz6 := hb6.size
   have X6 := qhd (X5.out.below hb6 X5.out.lt)
   have R6 := qhd (R5.out.below hb6 R5.out.lt)
   have TX6 := qhd (TX5.out.below hb6 X5.out.lt)
   have TR6 := qhd (TR5.out.below hb6 R5.out.lt)
   have RW6 : Hid (tLodKeeper lo w6 [.slice ja jn jc, .slice aa an ac] { k with fOwns := k.fOwns.dropLast ++ [x] }) := qhd (tLodKeeper_goodT.stays _ _ _ _ _ (KeepsT.of_below hb6) RW5.out)
   have hF6 : Below w.heap.size w w6 := hF5.trans (hb6.mono hF5.size)
   have HLN : Hid (p.fKeepers.dropLast.length + 1 ≤ 1000000) := qhd (by have := HN.out; rw [List.length_dropLast]; omega)
   clear X5 R5 K5 TX5 TR5 RW5 HCY hSR hRW hlk5 hF5 hb6
   go_wp2_with (refine wpList_append_FC (B := W5.heap.size) (lo := lo) (xs := p.fKeepers.dropLast) (ys := [{ k with fOwns := k.fOwns.dropLast ++ [x] }]) (cx := cs) (css := [[.slice ja jn jc, .slice aa an ac]]) (E := ELodKeeper) (by rfl) (.tmp 113) (.tmp 115) 23 (by rfl) sty_Kpr tLodKeeper_goodT ELodKeeper_not tLodKeeper_one (by rfl) (by rfl) ht6 hs6 (Rows.one rfl RW6.out) HLN.out (by omega) (by omega) ?_)
   intro v9 w7 ht7 hb7 hg7 hk7 hat7
   have X7 := X6.out.below hb7 (by omega)
   have R7 := R6.out.below hb7 (by omega)
   have TX7 := qhd (TX6.out.below hb7 (by omega))
   have TR7 := qhd (TR6.out.below hb7 (by omega))
   have hF7 : Below w.heap.size w w7 := hF6.trans (hb7.mono (by omega))
   obtain ⟨qa, qc, rfl, _, _⟩ := own_form ht7.owns
   have HPN : Hid (PlanC lo w7 (.slice qa (p.fKeepers.dropLast ++ [{ k with fOwns := k.fOwns.dropLast ++ [x] }]).length qc) (cs ++ [[.slice ja jn jc, .slice aa an ac]]) ⟨p.fKeepers.dropLast ++ [{ k with fOwns := k.fOwns.dropLast ++ [x] }]⟩) := qhd ⟨ht7.rows, ht7.owns, HPC.out.apart.init.snoc fun o' a' hm => ⟨fun b hb => fun hb2 => by
    have h9 := (HPC.out.lt (List.mem_append_left _ hm)).1 b hb
    have h8 := HO4.out b hb2
    omega, (HPC.out.apart.last hm).2⟩⟩
   obtain ⟨qn, hqn⟩ : ∃ n, (p.fKeepers.dropLast ++ [{ k with fOwns := k.fOwns.dropLast ++ [x] }]).length = n := ⟨_, rfl⟩
   rw [hqn] at HPN
   try rw [hqn]
   clear ht6 hs6 ht7 hb7 hg7 hk7 hat7 X6 R6 TX6 TR6 RW6 HLN hqn hF6
   obtain ⟨lx, x0, f0⟩ := X7
   obtain ⟨lr, r0, o0⟩ := R7
   go_wp2
   all_goals
    refine bodyPost_ret (v := ?_) ?hrun rfl ?_
    case hrun => (simp only [results, Tryz.results75]; go_simp; first | done | exact rfl)
    refine HR.out _ _ ⟨.slice qa qn qc, ?_, ?_, bbel⟩
    ·rw [IV.out]
    ·rw [IV.out]
     have TX := TX7.out
     have TR := TR7.out
     exact TPlan.keeps (show TPlan lo w7 _ _ from ⟨_, HPN.out⟩) (by (repeat' (first | (with_reducible exact KeepsT.refl _ _ _) | (with_reducible assumption) | (with_reducible refine KeepsT.allocB ?_ _) | (with_reducible refine KeepsT.drewB ?_) | (with_reducible refine KeepsT.setB ?_ ?_ (EPlan_plan) _) | ((with_reducible refine TypeAt.new' _ _ _ _ ?_); simp; done) | (with_reducible refine TypeAt.alloc ?_ _) | (with_reducible refine TypeAt.set ?_ _ _) | (with_reducible refine TypeAt.drew ?_))))


theorem S_l8Line (p : DLodPlan) (v : Value) (line : ByteArray) (lo : Nat) (w : World) (hlo : lo ≤ w.heap.size) (hp : TPlan lo w v p) (hs : SmallP 10000 p) (hline : line.size ≤ 10000) :
  Calls Tryz.prog 75 #[.agg #[v], .string line] w fun e w' => LinePost p line lo w e w' := by
 cases hk : isW line tKeeper
 ·cases hl : p.fKeepers.getLast? with
  | none => exact S_l8Line_empty p v line lo w hlo hp hline hk (List.getLast?_eq_none_iff.1 hl)
  | some k =>
    obtain ⟨w0, h0⟩ : ∃ x, (words line)[0]? = some x := ⟨_, List.getElem?_eq_getElem (words_pos line)⟩
    cases h1 : isW w0 tAsks
    ·cases h2 : isW w0 tClass
     ·cases hc : k.fOwns.getLast? with
      | none => exact S_l8Line_out p k v line lo w hlo hp hline hk hl w0 h0 h1 h2 (List.getLast?_eq_none_iff.1 hc)
      | some c => exact S_l8Line_inner p k c v line lo w hlo hp hs hline hk hl w0 h0 h1 h2 hc
     ·exact S_l8Line_class p k v line lo w hlo hp hs hline hk hl w0 h0 h1 h2
    ·exact S_l8Line_asks p k v line lo w hlo hp hs hline hk hl w0 h0 h1
 ·exact S_l8Line_keeper p v line lo w hlo hp hs hline hk

theorem mthRead_nil (ws : List ByteArray) : (mthRead ws).1.fMaps = [] ∧ (mthRead ws).1.fCode = [] := by
 unfold mthRead
 split
 ·split
  ·split <;> exact ⟨rfl, rfl⟩
  ·exact ⟨rfl, rfl⟩
 ·exact ⟨rfl, rfl⟩
theorem drop_mem' {α : Type} {xs : List α} {x : α} (h : x ∈ xs.dropLast) : x ∈ xs := (List.dropLast_sublist xs).subset h
theorem SmallC.more {N : Nat} {c : DClsClass} (h : SmallC N c) : SmallC (N + 1) c := ⟨Nat.le_succ_of_le h.flds, Nat.le_succ_of_le h.mths, fun m hm => Nat.le_succ_of_le (h.maps m hm), fun m hm => Nat.le_succ_of_le (h.code m hm)⟩
theorem len_last {α : Type} {xs : List α} {x y : α} (h : xs.getLast? = some x) : (xs.dropLast ++ [y]).length = xs.length := by
 have : xs ≠ [] := fun e => by rw [e] at h; cases h
 have := List.length_pos_iff.2 this
 rw [List.length_append, List.length_dropLast, List.length_singleton]; omega
theorem SmallC.inner {N : Nat} {c : DClsClass} (h : SmallC N c) (l : ByteArray) : SmallC (N + 1) (inner c l).1 := by
 unfold Go.Proofs.YtfbonocadpknbaaGreatDoor.inner
 simp only
 split
 ·exact ⟨by show (c.fFields ++ _).length ≤ _; rw [List.length_append, List.length_singleton]; have := h.flds; omega, h.more.mths, h.more.maps, h.more.code⟩
 ·split
  ·refine ⟨h.more.flds, by show (c.fMethods ++ _).length ≤ _; rw [List.length_append, List.length_singleton]; have := h.mths; omega, fun m hm => ?_, fun m hm => ?_⟩
   ·rcases List.mem_append.1 hm with hm | hm
    ·exact h.more.maps m hm
    ·rw [List.mem_singleton] at hm; subst hm; rw [(mthRead_nil _).1]; exact Nat.zero_le _
   ·rcases List.mem_append.1 hm with hm | hm
    ·exact h.more.code m hm
    ·rw [List.mem_singleton] at hm; subst hm; rw [(mthRead_nil _).2]; exact Nat.zero_le _
  ·split
   ·exact h.more
   ·rename_i m hm
    have hmm := List.mem_of_getLast? hm
    split
    ·refine ⟨h.more.flds, by show (c.fMethods.dropLast ++ [_]).length ≤ _; rw [len_last hm]; exact h.more.mths, fun x hx => ?_, fun x hx => ?_⟩
     ·rcases List.mem_append.1 hx with hx | hx
      ·exact h.more.maps x (drop_mem' hx)
      ·rw [List.mem_singleton] at hx; subst hx
       show (m.fMaps ++ _).length ≤ _
       rw [List.length_append, List.length_singleton]; have := h.maps m hmm; omega
     ·rcases List.mem_append.1 hx with hx | hx
      ·exact h.more.code x (drop_mem' hx)
      ·rw [List.mem_singleton] at hx; subst hx; exact h.more.code m hmm
    ·refine ⟨h.more.flds, by show (c.fMethods.dropLast ++ [_]).length ≤ _; rw [len_last hm]; exact h.more.mths, fun x hx => ?_, fun x hx => ?_⟩
     ·rcases List.mem_append.1 hx with hx | hx
      ·exact h.more.maps x (drop_mem' hx)
      ·rw [List.mem_singleton] at hx; subst hx; exact h.more.maps m hmm
     ·rcases List.mem_append.1 hx with hx | hx
      ·exact h.more.code x (drop_mem' hx)
      ·rw [List.mem_singleton] at hx; subst hx
       show (m.fCode ++ _).length ≤ _
       rw [List.length_append, List.length_singleton]; have := h.code m hmm; omega
structure SmallK (N : Nat) (k : DLodKeeper) : Prop where
 owns : k.fOwns.length ≤ N
 asks : k.fAsks.length ≤ N
 clss : ∀ c ∈ k.fOwns, SmallC N c
theorem SmallK.more {N : Nat} {k : DLodKeeper} (h : SmallK N k) : SmallK (N + 1) k := ⟨Nat.le_succ_of_le h.owns, Nat.le_succ_of_le h.asks, fun c hc => (h.clss c hc).more⟩
theorem SmallP.kpr {N : Nat} {p : DLodPlan} (h : SmallP N p) {k : DLodKeeper} (hk : k ∈ p.fKeepers) : SmallK N k := ⟨h.owns k hk, h.asks k hk, h.clss k hk⟩
theorem SmallP.of {N : Nat} {p : DLodPlan} (h0 : p.fKeepers.length ≤ N) (h : ∀ k ∈ p.fKeepers, SmallK N k) : SmallP N p := ⟨h0, fun k hk => (h k hk).owns, fun k hk => (h k hk).asks, fun k hk => (h k hk).clss⟩
theorem SmallK.line {N : Nat} {k k' : DLodKeeper} {l : ByteArray} {ok : Bool} (h : SmallK N k) (e : lastLine k l = some (k', ok)) : SmallK (N + 1) k' := by
 unfold lastLine at e
 simp only at e
 split at e
 ·cases e
  exact ⟨h.more.owns, by show (k.fAsks ++ [_]).length ≤ _; rw [List.length_append, List.length_singleton]; have := h.asks; omega, h.more.clss⟩
 ·split at e
  ·cases e
   refine ⟨by show (k.fOwns ++ [_]).length ≤ _; rw [List.length_append, List.length_singleton]; have := h.owns; omega, h.more.asks, fun c hc => ?_⟩
   rcases List.mem_append.1 hc with hc | hc
   ·exact h.more.clss c hc
   ·rw [List.mem_singleton] at hc; subst hc
    have hn := clsRead_nil (words l)
    exact ⟨by rw [hn.1]; exact Nat.zero_le _, by rw [hn.2]; exact Nat.zero_le _, fun m hm => by rw [hn.2] at hm; simp at hm, fun m hm => by rw [hn.2] at hm; simp at hm⟩
  ·split at e
   ·cases e
   ·rename_i c hc
    cases e
    refine ⟨by show (k.fOwns.dropLast ++ [_]).length ≤ _; rw [len_last hc]; exact h.more.owns, h.more.asks, fun d hd => ?_⟩
    rcases List.mem_append.1 hd with hd | hd
    ·exact h.more.clss d (drop_mem' hd)
    ·rw [List.mem_singleton] at hd; subst hd; exact (h.clss c (List.mem_of_getLast? hc)).inner l
theorem SmallP.line {N : Nat} {p : DLodPlan} (h : SmallP N p) (l : ByteArray) : SmallP (N + 1) (lineR p l).1 := by
 have hm : SmallP (N + 1) p := .of (Nat.le_succ_of_le h.kprs) fun k hk => (h.kpr hk).more
 unfold lineR
 split
 ·refine .of (by show (p.fKeepers ++ [_]).length ≤ _; rw [List.length_append, List.length_singleton]; have := h.kprs; omega) fun k hk => ?_
  rcases List.mem_append.1 hk with hk | hk
  ·exact (h.kpr hk).more
  ·rw [List.mem_singleton] at hk; subst hk
   exact ⟨Nat.zero_le _, Nat.zero_le _, fun c hc => by simp at hc⟩
 ·split
  ·exact hm
  ·rename_i k hk
   split
   ·exact hm
   ·rename_i k' ok e
    refine .of (by show (p.fKeepers.dropLast ++ [_]).length ≤ _; rw [len_last hk]; exact hm.kprs) fun x hx => ?_
    rcases List.mem_append.1 hx with hx | hx
    ·exact (h.kpr (drop_mem' hx)).more
    ·rw [List.mem_singleton] at hx; subst hx; exact (h.kpr (List.mem_of_getLast? hk)).line e
theorem SmallP.le {N M : Nat} {p : DLodPlan} (h : SmallP N p) (hNM : N ≤ M) : SmallP M p :=
 ⟨Nat.le_trans h.kprs hNM, fun k hk => Nat.le_trans (h.owns k hk) hNM, fun k hk => Nat.le_trans (h.asks k hk) hNM, fun k hk c hc => ⟨Nat.le_trans (h.clss k hk c hc).flds hNM, Nat.le_trans (h.clss k hk c hc).mths hNM, fun m hm => Nat.le_trans ((h.clss k hk c hc).maps m hm) hNM, fun m hm => Nat.le_trans ((h.clss k hk c hc).code m hm) hNM⟩⟩
theorem TPlan.nil (lo : Nat) (w : World) : TPlan lo w (.slice none 0 0) ⟨[]⟩ := ⟨[], Rows.nil, ⟨by simp, Or.inl ⟨rfl, rfl⟩⟩, fun i j o a o' a' _ hi _ => by simp at hi⟩

end Go.Proofs.YtfbonocadpknbaaGreatDoor
