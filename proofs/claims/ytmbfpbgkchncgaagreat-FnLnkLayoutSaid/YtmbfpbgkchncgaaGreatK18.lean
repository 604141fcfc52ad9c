/-
  Texts of mine, packed: LaidP, LaidT, LaidI, LaidK. No condition beside those of the single theorems.
-/
import Derived.Test.YtmbfpbgkchncgaaGreatK17
import Derived.Test.YtmbfpbgkchncgaaGreatK9
import Derived.Deep.CutRange
set_option linter.unusedSimpArgs false
set_option linter.unusedVariables false
set_option maxHeartbeats 16000000
set_option maxRecDepth 100000
namespace Go.Proofs.YtmbfpbgkchncgaaGreat
open Go.RowKit
def shapeP (p : DLodPlan) (i j : Nat) (m : DClsMethod) : Bool := each (fun _ k => agreeP p i j k) m.fArgs && agreeP p i j m.fRet
def methodFits (p : DLodPlan) (i j : Nat) (u : DClsClass) (m : DClsMethod) : Bool := if methodAt u.fMethods m.fName < 0 then true else (match u.fMethods[(methodAt u.fMethods m.fName).toNat]? with | some n => sameSig m n && shapeP p i j m | none => true)
def fieldFits (u : DClsClass) (f : DClsField) : Bool := decide (fieldAt u.fFields f.fName < 0)
def pairFits (p : DLodPlan) (i j : Nat) (c u : DClsClass) : Bool := each (fun _ m => methodFits p i j u m) c.fMethods && each (fun _ f => fieldFits u f) c.fFields
def pairOk (p : DLodPlan) (a b : DLodRef) : Bool := match clsAt p a, clsAt p b with | some c, some u => pairFits p a.fKeeper.toNat b.fKeeper.toNat c u | _, _ => true
def overL (p : DLodPlan) (a : DLodRef) (k : Nat) (b : DLodRef) : Bool := if k = 0 then true else pairOk p a b
def laidAt (p : DLodPlan) (rs : List DLodRef) (k : Nat) (a : DLodRef) : Bool := each (overL p a) (rs.drop k)
def laidL (p : DLodPlan) (rs : List DLodRef) : Bool := each (laidAt p rs) rs
def lnkLaid (p : DLodPlan) (r : DLodRef) : Bool := !(lodChain p r).isEmpty && laidL p (lodChain p r)

theorem clsAt_parts {p : DLodPlan} {r : DLodRef} {c : DClsClass} (h : clsAt p r = some c) : 0 ≤ r.fKeeper ∧ ∃ k, p.fKeepers[r.fKeeper.toNat]? = some k ∧ 0 ≤ ownAt k.fOwns r.fName ∧ k.fOwns[(ownAt k.fOwns r.fName).toNat]? = some c := by
 unfold clsAt at h
 by_cases h0 : 0 ≤ r.fKeeper
 ·rw [if_pos h0] at h
  cases hk : p.fKeepers[r.fKeeper.toNat]? with
  | none => rw [hk] at h; cases h
  | some k =>
    rw [hk] at h
    simp only at h
    by_cases ho : 0 ≤ ownAt k.fOwns r.fName
    ·rw [if_pos ho] at h
     exact ⟨h0, k, rfl, ho, h⟩
    ·rw [if_neg ho] at h; cases h
 ·rw [if_neg h0] at h; cases h
theorem clsAt_ok {p : DLodPlan} (hp : lodOk p = true) {r : DLodRef} {c : DClsClass} (h : clsAt p r = some c) : clsOk c = true := by
 obtain ⟨_, k, hk, _, hc⟩ := clsAt_parts h
 obtain ⟨_, _, ho, _⟩ := keeperOk_parts (lodOk_keeper hp hk)
 have := each_iff.1 ho _ c hc
 simp only [ownIn, Bool.and_eq_true] at this
 exact this.1
theorem namOk_size {n : ByteArray} (h : namOk n = true) : n.size ≤ maxLen := by
 unfold namOk at h
 simp only [Bool.and_eq_true, decide_eq_true_eq] at h
 have := h.1.2
 unfold maxLen; omega

theorem chainF_there {p : DLodPlan} (h : lodOk p = true) : ∀ (f : Nat) (r : DLodRef) (rs : List DLodRef), There p r → chainF p f r = some rs → ∀ x ∈ rs, There p x
 | 0, _, _, _, e => by simp [chainF] at e
 | f + 1, r, rs, ht, e => by
   obtain ⟨c, hc⟩ := ht.cls
   unfold chainF at e
   rw [hc] at e
   simp only at e
   by_cases hs : c.fSuper.toList.isEmpty = true
   ·rw [if_pos hs] at e
    obtain rfl := (Option.some.inj e).symm
    intro x hx
    rw [List.mem_singleton] at hx
    subst hx; exact ht
   ·rw [if_neg hs] at e
    by_cases hw : (whoseR p r.fKeeper.toNat c.fSuper).2 = 1
    ·rw [if_pos hw] at e
     cases e2 : chainF p f (whoseR p r.fKeeper.toNat c.fSuper).1 with
     | none => rw [e2] at e; simp at e
     | some qs =>
       rw [e2] at e
       simp only [Option.map_some, Option.some.injEq] at e
       subst e
       obtain ⟨j, hj1, hj2, hj3, hj4⟩ := id ht
       obtain ⟨j', he, h1, h2⟩ := whoseR_there h (i := r.fKeeper.toNat) (nm := c.fSuper) (by omega) hw
       have hcs : c.fSuper.size ≤ maxLen := by
        have hk : clsOk c = true := clsAt_ok h hc
        unfold clsOk at hk
        simp only [Bool.and_eq_true, Bool.or_eq_true] at hk
        rcases hk.1.1.1.1.2 with h5 | h5
        ·exact absurd h5 hs
        ·exact namOk_size h5
       intro x hx
       rcases List.mem_cons.1 hx with rfl | hx
       ·exact ht
       ·refine chainF_there h f _ qs ?_ e2 x hx
        rw [he]
        exact ⟨j', rfl, h1, h2, hcs⟩
    ·rw [if_neg hw] at e; cases e

theorem shapeP_stop {p : DLodPlan} {i j : Nat} {m : DClsMethod} (h : each (fun _ k => agreeP p i j k) m.fArgs = false) : shapeP p i j m = false := by simp [shapeP, h]

theorem S_l4Shape (p : DLodPlan) (i j : Nat) (m : DClsMethod) (v v1 : Value) (a2 a3 : Option Addr) (l2 l3 k2 k3 : Nat) (w : World) (sp : Sl 2 rLodKeeper 0 w v p.fKeepers) (hp : lodOk p = true) (hi : i < p.fKeepers.length) (hj : j < p.fKeepers.length) (s1 : Sl 2 rKndKind 0 w v1 m.fArgs) (hn : m.fRet.fName.size ≤ maxLen) :
  Calls Tryz.prog 116 #[.agg #[v], .int .i64 (i : Int), .int .i64 (j : Int), .agg #[.string m.fName, v1, .int .i64 m.fRet.fKind, .string m.fRet.fName, .int .i64 m.fLocals, .int .i64 m.fStack, .slice a2 l2 k2, .slice a3 l3 k3]] w fun e w' => e = .returned (.bool (shapeP p i j m)) ∧ Below w.heap.size w w' := by
 obtain ⟨pa, plen, pcap, rfl⟩ := sp.form
 obtain ⟨a, len, cap, rfl, hl, h1, h2, h3⟩ := id s1
 have m1 : len ≤ 9223372036854775807 := by unfold maxLen at h2; omega
 have HL := qhd hl
 have HS := qhd sp
 have HP := qhd hp
 clear h2 hl h1 sp hp
 obtain ⟨z, hz⟩ : ∃ z, z = shapeP p i j m := ⟨_, rfl⟩
 have HZ := qhd hz
 rw [← hz]
 clear hz
 have AG : ∀ (W : World) (kd : DKndKind), kd.fName.size ≤ maxLen → Below w.heap.size w W → Calls Tryz.prog 145 #[.agg #[.slice pa plen pcap], .int .i64 (i : Int), .int .i64 (j : Int), .agg #[.int .i64 kd.fKind, .string kd.fName]] W fun e w' => e = .returned (.bool (agreeP p i j kd)) ∧ Below W.heap.size W w' := fun W kd hk hW => S_l4Agree p _ i j kd W (HS.out.stays rLodKeeper_good (Keeps.of_below hW)) HP.out hi hj hk
 refine qab fun R HR => ?_
 go_enter Tryz.func116, Tryz.ntmps116
 go_wp2_with fail
 go_loopw [9] (fun zi wr => ∃ k : Nat, k ≤ len ∧ zi = .int .i64 k ∧ EachTo (fun _ k => agreeP p i j k) m.fArgs k = true ∧ Below w.heap.size w wr ∧ wr.cell? ⟨w.heap.size, 0, none⟩ = some (.slice pa plen pcap) ∧ wr.cell? ⟨w.heap.size + 1, 1, none⟩ = some (.slice a len cap) ∧ wr.cell? ⟨w.heap.size + 1, 2, none⟩ = some (.int .i64 m.fRet.fKind) ∧ wr.cell? ⟨w.heap.size + 1, 3, none⟩ = some (.string m.fRet.fName)) (fun zi _ => len - (intOf zi).toNat)
 case atStart => exact ⟨0, Nat.zero_le _, rfl, rfl, bbel, by go_simp, by go_simp, by go_simp, by go_simp⟩
 case round =>
  obtain ⟨k, hk, rfl, ha, hb, c0, c1, c2, c3⟩ := hrel
  have HA := qhd ha
  clear ha
  have hbx := hb.size
  have hbl := block_lt_of_cell c0
  have hbl2 := block_lt_of_cell c1
  by_cases hlt : k < len
  ·go_wp2_with fail
   obtain ⟨b, off, rfl, _, _, hr⟩ := h3.stays qap (Keeps.of_below hb) (by omega)
   obtain ⟨⟨xk, xn⟩, cs, e0, _, e1, e4⟩ := hr k hlt
   obtain ⟨rfl, bx⟩ := e4
   have q1 := In.cell (show wr.cell? ⟨b, off + k * 2, none⟩ = some (.int .i64 xk) from e1 0 _ rfl)
   have q2 := In.cell (show wr.cell? ⟨b, off + k * 2 + 1, none⟩ = some (.string xn) from e1 1 _ rfl)
   have y0 := In.cell c0
   have y1 := In.cell c1
   have C0 := qhd c0
   have C1 := qhd c1
   have C2 := qhd c2
   have C3 := qhd c3
   have E0 := qhd e0
   obtain ⟨q, hq⟩ : ∃ q, q = agreeP p i j ⟨xk, xn⟩ := ⟨_, rfl⟩
   have CA : ∀ y : In wr, Calls Tryz.prog 145 #[.agg #[.slice pa plen pcap], .int .i64 (i : Int), .int .i64 (j : Int), .agg #[.int .i64 xk, .string xn]] y.x fun e w' => e = .returned (.bool q) ∧ Below y.x.heap.size y.x w' := fun y => by
    rw [hq]; exact AG y.x ⟨xk, xn⟩ bx (hb.trans (y.h.mono hbx))
   have HQ := qhd hq
   clear e0 e1 hr c0 c1 c2 c3 hq
   cases q
   ·have RV : Hid (z = false) := qhd (by rw [HZ.out]; exact shapeP_stop (qan E0.out HQ.out.symm))
    refine qaj (by kernel_rfl) (by kernel_rfl) ?_
    repeat (go_big_quiet_step (first | (go_at_call 145; exact Calls.ins (CA _))))
    refine wpQuiet_nil ?_
    rintro wZ ⟨⟨wE, hwE⟩, hq⟩
    obtain rfl : wE = wZ := hq.symm
    clear hq
    have hwEs := hwE.size
    (try dsimp only)
    have hEE := hb.trans (hwE.mono hbx)
    go_wp2
    all_goals (try go_returns)
    all_goals exact HR.out _ _ ⟨by first | (rw [RV.out]; done) | (rw [RV.out]; rfl), hEE⟩
   ·skip
    refine qaj (by kernel_rfl) (by kernel_rfl) ?_
    repeat (go_big_quiet_step (first | (go_at_call 145; exact Calls.ins (CA _))))
    refine wpQuiet_nil ?_
    rintro wZ ⟨⟨wE, hwE⟩, hq⟩
    obtain rfl : wE = wZ := hq.symm
    clear hq
    have hwEs := hwE.size
    (try dsimp only)
    have hEE := hb.trans (hwE.mono hbx)
    go_wp2
    go_roundw
    case measure => simp [intOf]; omega
    case rel => exact ⟨k + 1, by omega, by go_num, EachTo.step HA.out E0.out HQ.out.symm, hEE, In.cell C0.out ⟨wE, hwE⟩, In.cell C1.out ⟨wE, hwE⟩, In.cell C2.out ⟨wE, hwE⟩, In.cell C3.out ⟨wE, hwE⟩⟩
  ·obtain rfl : k = len := by omega
   have RV : Hid (z = agreeP p i j m.fRet) := qhd (by rw [HZ.out]; unfold shapeP; rw [qat HA.out HL.out]; rfl)
   go_wp2_with fail
   refine (AG _ m.fRet hn hb).mono ?_
   rintro _ wE ⟨rfl, hE⟩
   go_wp2
   all_goals (try go_returns)
   all_goals exact HR.out _ _ ⟨by first | (rw [RV.out]; done) | (rw [RV.out]; rfl), hb.trans (hE.mono hbx)⟩

def ClsAt (w : World) (B : Nat) (c : DClsClass) : Prop := ∃ a1 l1 c1 a2 l2 c2, w.cell? ⟨B, 0, none⟩ = some (.string c.fName) ∧ w.cell? ⟨B, 1, none⟩ = some (.string c.fSuper) ∧ w.cell? ⟨B, 2, none⟩ = some (.slice a1 l1 c1) ∧ w.cell? ⟨B, 3, none⟩ = some (.slice a2 l2 c2) ∧ Sl 3 rClsField 0 w (.slice a1 l1 c1) c.fFields ∧ Sl 8 rClsMethod 0 w (.slice a2 l2 c2) c.fMethods
theorem ClsAt.below {w w' : World} {B : Nat} {c : DClsClass} (h : ClsAt w B c) (hb : Below w.heap.size w w') : ClsAt w' B c := by
 obtain ⟨a1, l1, c1, a2, l2, c2, h0, h1, h2, h3, h4, h5⟩ := h
 exact ⟨a1, l1, c1, a2, l2, c2, qaa hb h0, qaa hb h1, qaa hb h2, qaa hb h3, h4.stays qar (Keeps.of_below hb), h5.stays qaq (Keeps.of_below hb)⟩

theorem al0 {w x : World} {o : Obj} (h : Below w.heap.size w x) : Below w.heap.size w (x.alloc o) := h.alloc h.size o

theorem dr0 {w x : World} (h : Below w.drew.heap.size w.drew x) : Below w.heap.size w x := ((Below.refl _ _).drew).trans h
theorem st0 {w x : World} (h : Below w.heap.size w x) (i : Nat) (v : Value) : Below w.heap.size w (x.setCell ⟨w.heap.size, i, none⟩ v) := h.setCell (Nat.le_refl _) v
theorem fresh4 {w w' : World} {t : TypeId} {u0 u1 u2 u3 : Value} (h : Below (w.drew.alloc (.cells #[u0, u1, u2, u3] t)).heap.size (w.drew.alloc (.cells #[u0, u1, u2, u3] t)) w') :
  w'.cell? ⟨w.heap.size, 0, none⟩ = some u0 ∧ w'.cell? ⟨w.heap.size, 1, none⟩ = some u1 ∧ w'.cell? ⟨w.heap.size, 2, none⟩ = some u2 ∧ w'.cell? ⟨w.heap.size, 3, none⟩ = some u3 ∧ w'.frozen? ⟨w.heap.size, 0, none⟩ = false ∧ w'.frozen? ⟨w.heap.size, 1, none⟩ = false ∧ w'.frozen? ⟨w.heap.size, 2, none⟩ = false ∧ w'.frozen? ⟨w.heap.size, 3, none⟩ = false ∧ w.heap.size < w'.heap.size := by
 have hz := h.size
 simp only [World.size_alloc, World.size_drew] at hz
 refine ⟨?_, ?_, ?_, ?_, ?_, ?_, ?_, ?_, by omega⟩
 all_goals first
  | exact (h.cell (by simp)).trans (by go_simp)
  | exact (h.frozen (by simp)).trans (by go_simp)

theorem overL_stop {p : DLodPlan} {r0 rk : DLodRef} {rs : List DLodRef} {k : Nat} (hk : 1 ≤ k) (e : rs[k]? = some rk) (h : pairOk p r0 rk = false) : each (overL p r0) rs = false :=
 qan e (by unfold overL; rw [if_neg (by omega)]; exact h)
theorem pairOk_cls {p : DLodPlan} {i j : Nat} {xn yn : ByteArray} {c u : DClsClass} (hc : clsAt p ⟨(i : Int), xn⟩ = some c) (hu : clsAt p ⟨(j : Int), yn⟩ = some u) : pairOk p ⟨(i : Int), xn⟩ ⟨(j : Int), yn⟩ = pairFits p i j c u := by
 unfold pairOk
 rw [hc, hu]; rfl
theorem pairFits_m {p : DLodPlan} {i j : Nat} {c u : DClsClass} (h : each (fun _ m => methodFits p i j u m) c.fMethods = false) : pairFits p i j c u = false := by simp [pairFits, h]
theorem pairFits_f {p : DLodPlan} {i j : Nat} {c u : DClsClass} (h : each (fun _ f => fieldFits u f) c.fFields = false) : pairFits p i j c u = false := by simp [pairFits, h]
theorem pairFits_ok {p : DLodPlan} {i j : Nat} {c u : DClsClass} (h : each (fun _ m => methodFits p i j u m) c.fMethods = true) (h' : each (fun _ f => fieldFits u f) c.fFields = true) : pairFits p i j c u = true := by simp [pairFits, h, h']
theorem methodFits_none {p : DLodPlan} {i j : Nat} {u : DClsClass} {m : DClsMethod} (h : methodAt u.fMethods m.fName < 0) : methodFits p i j u m = true := by unfold methodFits; rw [if_pos h]
theorem methodFits_some {p : DLodPlan} {i j n : Nat} {u : DClsClass} {m x : DClsMethod} (h : methodAt u.fMethods m.fName = (n : Int)) (e : u.fMethods[n]? = some x) : methodFits p i j u m = (sameSig m x && shapeP p i j m) := by
 unfold methodFits
 rw [h, if_neg (by omega), Int.toNat_natCast, e]
theorem methodAt_row {xs : List DClsMethod} {nm : ByteArray} {n : Nat} (h : methodAt xs nm = (n : Int)) : ∃ x, xs[n]? = some x := by
 rcases firstAt_cases (fun f : DClsMethod => sameN f.fName nm) xs with ⟨h1, _⟩ | ⟨k, x, h1, h2, _⟩
 ·unfold methodAt at h; rw [h1] at h; omega
 ·unfold methodAt at h
  rw [h1] at h
  obtain rfl : k = n := by omega
  exact ⟨x, h2⟩

theorem S_l4Over (p : DLodPlan) (v vc : Value) (r0 : DLodRef) (rs : List DLodRef) (w : World) (sp : Sl 2 rLodKeeper 0 w v p.fKeepers) (hp : lodOk p = true) (sc : Sl 2 rLodRef 0 w vc rs) (h0 : rs[0]? = some r0) (ht : ∀ x ∈ rs, There p x) :
  Calls Tryz.prog 81 #[.agg #[v], vc] w fun e w' => e = .returned (.bool (each (overL p r0) rs)) ∧ Below w.heap.size w w' := by
 obtain ⟨pa, plen, pcap, rfl⟩ := sp.form
 obtain ⟨a, len, cap, rfl, hl, h1, h2, h3⟩ := id sc
 have m1 : len ≤ 9223372036854775807 := by unfold maxLen at h2; omega
 have hpos : 0 < len := by rw [← hl]; exact (List.getElem?_eq_some_iff.1 h0).1
 have HL := qhd hl
 have HS := qhd sp
 have HP := qhd hp
 have HT := qhd ht
 obtain ⟨b, off, rfl, _, hbl, hr⟩ := h3 hpos
 obtain ⟨⟨xk, xn⟩, cs, e0, _, e1, e4⟩ := hr 0 hpos
 obtain ⟨rfl, bx⟩ := e4
 have q1 : w.cell? ⟨b, off, none⟩ = some (.int .i64 xk) := by have := e1 0 _ rfl; simpa using this
 have q2 : w.cell? ⟨b, off + 1, none⟩ = some (.string xn) := by have := e1 1 _ rfl; simpa using this
 obtain rfl : (⟨xk, xn⟩ : DLodRef) = r0 := by have := h0.symm.trans e0; simpa using this.symm
 obtain ⟨xi, hxk, hxi, _, _⟩ := ht _ (List.mem_of_getElem? h0)
 dsimp only at hxk bx
 subst hxk
 have H0 := qhd h0
 have HRW := qhd hr
 clear e0 e1 h2 hl h1 sp hp ht h0 hr h3
 obtain ⟨z, hz⟩ : ∃ z, z = each (overL p ⟨(xi : Int), xn⟩) rs := ⟨_, rfl⟩
 have HZ := qhd hz
 rw [← hz]
 clear hz
 refine qab fun R HR => ?_
 go_enter Tryz.func81, Tryz.ntmps81
 go_upto_region 1 with fail
 go_cut [5] from 11 to 15 (fun v5 wx => ∃ (B : Nat) (c : DClsClass), v5 = .pointer (some ⟨B, 0, none⟩) ∧ clsAt p ⟨(xi : Int), xn⟩ = some c ∧ Below w.heap.size w wx ∧ wx.cell? ⟨w.heap.size, 0, none⟩ = some (.slice pa plen pcap) ∧ ClsAt wx B c)
 case first =>
  obtain ⟨wS, hwS⟩ : ∃ wS, wS = w.alloc (.cells #[.slice pa plen pcap] 25) := ⟨_, rfl⟩
  rw [← hwS]
  have hES : Below w.heap.size w wS := by rw [hwS]; exact bbel
  have hzS := hES.size
  have k0' : wS.cell? ⟨w.heap.size, 0, none⟩ = some (.slice pa plen pcap) := by rw [hwS]; go_simp
  have k0 : ∀ W, Below wS.heap.size wS W → W.cell? ⟨w.heap.size, 0, none⟩ = some (.slice pa plen pcap) := fun W hW => (hW.cell (block_lt_of_cell k0')).trans k0'
  have k1 : ∀ W, Below wS.heap.size wS W → W.cell? ⟨b, off, none⟩ = some (.int .i64 (xi : Int)) := fun W hW => (hW.cell (block_lt_of_cell (qaa hES q1))).trans (qaa hES q1)
  have k2 : ∀ W, Below wS.heap.size wS W → W.cell? ⟨b, off + 1, none⟩ = some (.string xn) := fun W hW => (hW.cell (block_lt_of_cell (qaa hES q2))).trans (qaa hES q2)
  obtain ⟨c, hc⟩ := (HT.out ⟨(xi : Int), xn⟩ (List.mem_of_getElem? H0.out)).cls
  have HC := qhd hc
  have K0 := qhd k0
  have SS := qhd (HS.out.stays rLodKeeper_good (Keeps.of_below hES))
  clear hwS hc k0'
  have keepA : ∀ x x' : World, Below x.heap.size x x' → Below wS.heap.size wS x → Below wS.heap.size wS x' := fun x x' hb e => keep_below hb e (Nat.le_refl _)
  go_region_held3 (fun x => Below wS.heap.size wS x) ((first | exact (Below.refl _ _).drew | exact keepA _ _ (by assumption) (by assumption) | exact al0 (by assumption) | ((repeat (with_reducible refine st0 ?_ _ _)); assumption) | exact al0 (dr0 (by assumption)) | exact bbel)) (first | (go_at_call 87; refine (S_l3ClassO p _ ⟨(xi : Int), xn⟩ c wS _ (by assumption) SS.out HC.out bx).mono ?_; rintro _ _ ⟨⟨v, rfl, a1, l1, c1, a2, l2, c2, rfl, d1, d2, by1, by2⟩, hcall⟩; have hcs := hcall.size; (try simp only [World.size_alloc, World.size_drew, World.size_setCell] at hcs); (try (have hfr := fresh4 hcall; obtain ⟨z0, z1, z2, z3, f0, f1, f2, f3, zl⟩ := hfr))))
  all_goals
   clear k0 k1 k2 keepA
   rename_i hF
   go_wp2_with fail
   go_meet
   case rel =>
    exact ⟨_, c, rfl, HC.out, hES.trans (hF.mono hzS), K0.out _ hF, a1, l1, c1, a2, l2, c2, by go_simp, by go_simp, by go_simp, by go_simp, d1.stays qar (Keeps.of_below hF), d2.stays qaq (Keeps.of_below hF)⟩
 case rest =>
  obtain ⟨B, c, rfl, hc, hE, c0, hcB⟩ := hcut
  obtain ⟨wO, hwO⟩ : ∃ x, x = wc := ⟨_, rfl⟩
  subst hwO
  have HC := qhd hc
  have HE := qhd hE
  have HB := qhd hcB
  have hEs := hE.size
  have hbE := Nat.lt_of_lt_of_le hbl hEs
  replace q1 := qaa hE q1
  clear hc hcB hE
  go_wp2_with fail
  go_loopw [6] (fun zi wr => ∃ k : Nat, 1 ≤ k ∧ k ≤ len ∧ zi = .int .i64 k ∧ EachTo (overL p ⟨(xi : Int), xn⟩) rs k = true ∧ Below wO.heap.size wO wr) (fun zi _ => len - (intOf zi).toNat)
  case atStart => exact ⟨1, Nat.le_refl _, hpos, rfl, by simp [EachTo, H0.out, overL], Below.refl _ _⟩
  case round =>
   obtain ⟨k, hk1, hk, rfl, ha, hb⟩ := hrel
   have HA := qhd ha
   clear ha
   have hbx := hb.size
   by_cases hlt : k < len
   rotate_left
   ·obtain rfl : k = len := by omega
    have RV : Hid (z = true) := qhd (by rw [HZ.out]; exact qat HA.out HL.out)
    go_wp2
    all_goals (try go_returns)
    all_goals exact HR.out _ _ ⟨by rw [RV.out]; rfl, HE.out.trans (hb.mono hEs)⟩
   obtain ⟨⟨yk, yn⟩, cs', e0, _, e1, e4⟩ := HRW.out k hlt
   obtain ⟨rfl, by0⟩ := e4
   have p1 : w.cell? ⟨b, off + k * 2, none⟩ = some (.int .i64 yk) := e1 0 _ rfl
   have p2 : w.cell? ⟨b, off + k * 2 + 1, none⟩ = some (.string yn) := e1 1 _ rfl
   replace p1 := qaa hb (qaa HE.out p1)
   replace p2 := qaa hb (qaa HE.out p2)
   have P1 := qhd p1
   have Q1 := qhd (qaa hb q1)
   have C0 := qhd (qaa hb c0)
   obtain ⟨yi, hyk, hyi, _, _⟩ := HT.out _ (List.mem_of_getElem? e0)
   dsimp only at hyk by0
   subst hyk
   have E0 := qhd e0
   clear e0 e1
   go_upto_region 5 with fail
   go_cut [7] from 16 to 95 (fun v7 wx => ∃ (D : Nat) (u : DClsClass), v7 = .pointer (some ⟨D, 0, none⟩) ∧ clsAt p ⟨(yi : Int), yn⟩ = some u ∧ Below wr.heap.size wr wx ∧ ClsAt wx D u)
   case first =>
    have k0 : ∀ W, Below wr.heap.size wr W → W.cell? ⟨w.heap.size, 0, none⟩ = some (.slice pa plen pcap) := fun W hW => qaa hW C0.out
    have k1 : ∀ W, Below wr.heap.size wr W → W.cell? ⟨b, off + k * 2, none⟩ = some (.int .i64 (yi : Int)) := fun W hW => qaa hW p1
    have k2 : ∀ W, Below wr.heap.size wr W → W.cell? ⟨b, off + k * 2 + 1, none⟩ = some (.string yn) := fun W hW => qaa hW p2
    obtain ⟨u, hu⟩ := (HT.out ⟨(yi : Int), yn⟩ (List.mem_of_getElem? E0.out)).cls
    have HU := qhd hu
    have SS := qhd ((HS.out.stays rLodKeeper_good (Keeps.of_below HE.out)).stays rLodKeeper_good (Keeps.of_below hb))
    have g2 : (k : Int) < (len : Int) := by omega
    have g3 : (0 : Int) ≤ (k : Int) := by omega
    clear hu q1 p1 p2 c0
    have keepA : ∀ x x' : World, Below x.heap.size x x' → Below wr.heap.size wr x → Below wr.heap.size wr x' := fun x x' hb e => keep_below hb e (Nat.le_refl _)
    go_region_held3 (fun x => Below wr.heap.size wr x) ((first | exact (Below.refl _ _).drew | exact keepA _ _ (by assumption) (by assumption) | exact al0 (by assumption) | ((repeat (with_reducible refine st0 ?_ _ _)); assumption) | exact al0 (dr0 (by assumption)) | exact bbel)) (first | (go_at_call 87; refine (S_l3ClassO p _ ⟨(yi : Int), yn⟩ u wr _ (by assumption) SS.out HU.out by0).mono ?_; rintro _ _ ⟨⟨v, rfl, a1, l1, c1, a2, l2, c2, rfl, d1, d2, by1, by2⟩, hcall⟩; have hcs := hcall.size; (try simp only [World.size_alloc, World.size_drew, World.size_setCell] at hcs); (try (have hfr := fresh4 hcall; obtain ⟨z0, z1, z2, z3, f0, f1, f2, f3, zl⟩ := hfr))))
    all_goals
     clear k0 k1 k2 keepA
     rename_i hF
     go_wp2_with fail
     go_meet
     case rel =>
      exact ⟨_, u, rfl, HU.out, hF, a1, l1, c1, a2, l2, c2, by go_simp, by go_simp, by go_simp, by go_simp, d1.stays qar (Keeps.of_below hF), d2.stays qaq (Keeps.of_below hF)⟩
   case rest =>
    obtain ⟨D, u, rfl, hu, hF, huD⟩ := hcut
    obtain ⟨wx, hwx⟩ : ∃ x, x = wc := ⟨_, rfl⟩
    subst hwx
    have hbF := hb.trans (hF.mono hbx)
    have hFs := hF.size
    have BX := qhd (HB.out.below hbF)
    have DX := qhd huD
    have PX := qhd (qaa hF C0.out)
    have QX := qhd (qaa hF Q1.out)
    have RX := qhd (qaa hF P1.out)
    have SX := qhd ((HS.out.stays rLodKeeper_good (Keeps.of_below HE.out)).stays rLodKeeper_good (Keeps.of_below hbF))
    have PF : Hid (pairOk p ⟨(xi : Int), xn⟩ ⟨(yi : Int), yn⟩ = pairFits p xi yi c u) := qhd (pairOk_cls HC.out hu)
    have HF := qhd hF
    have HEX := qhd (HE.out.trans (hbF.mono hEs))
    clear hu huD p1 p2 q1 c0 hF
    go_wp2_with fail
    go_loopw [8] (fun zj wq => ∃ j : Nat, j ≤ c.fMethods.length ∧ zj = .int .i64 j ∧ EachTo (fun _ m => methodFits p xi yi u m) c.fMethods j = true ∧ Below wx.heap.size wx wq) (fun zj _ => c.fMethods.length - (intOf zj).toNat)
    case atStart => exact ⟨0, Nat.zero_le _, rfl, rfl, Below.refl _ _⟩
    case round =>
     obtain ⟨j, hj, rfl, ha2, hb2⟩ := hrel
     obtain ⟨wq, hwq⟩ : ∃ x, x = wr := ⟨_, rfl⟩
     subst hwq
     have HA2 := qhd ha2
     clear ha2
     have hbx2 := hb2.size
     obtain ⟨ca1, cl1, cc1, ca2, cl2, cc2, n0, n1, n2, n3, sf, sm⟩ := BX.out.below hb2
     obtain ⟨da1, dl1, dc1, da2, dl2, dc2, o0, o1, o2, o3, tf, tm⟩ := DX.out.below hb2
     clear n0 n1 o0 o1
     have hml := sm.len.1
     have hmc := sm.len.2
     have hmm : cl2 ≤ 9223372036854775807 := by unfold maxLen at hmc; omega
     have hdc := tm.len.2
     have hdm : dl2 ≤ 9223372036854775807 := by unfold maxLen at hdc; omega
     by_cases hlt2 : j < c.fMethods.length
     rotate_left
     ·obtain rfl : j = c.fMethods.length := by omega
      have HM : Hid (each (fun _ m => methodFits p xi yi u m) c.fMethods = true) := qhd (qat HA2.out rfl)
      have hj2 : ¬ (c.fMethods.length < cl2) := by omega
      clear HA2 sf sm tf tm hml hmc hmm hdc hdm n2 o2
      go_wp2_with fail
      clear n3 o3 hj2
      go_loopw [10] (fun zi ws => ∃ i : Nat, i ≤ c.fFields.length ∧ zi = .int .i64 i ∧ EachTo (fun _ f => fieldFits u f) c.fFields i = true ∧ Below wq.heap.size wq ws) (fun zi _ => c.fFields.length - (intOf zi).toNat)
      case atStart => exact ⟨0, Nat.zero_le _, rfl, rfl, Below.refl _ _⟩
      case round =>
       obtain ⟨i, hi, rfl, ha3, hb3⟩ := hrel
       obtain ⟨ws, hws⟩ : ∃ x, x = wr := ⟨_, rfl⟩
       subst hws
       have HA3 := qhd ha3
       clear ha3
       have hbx3 := hb3.size
       have hbs := hb2.trans (hb3.mono hbx2)
       obtain ⟨ca1, cl1, cc1, ca2, cl2, cc2, n0, n1, n2, n3, sf, sm⟩ := BX.out.below hbs
       obtain ⟨da1, dl1, dc1, da2, dl2, dc2, o0, o1, o2, o3, tf, tm⟩ := DX.out.below hbs
       clear n0 n1 o0 o1 n3 o3 sm tm
       have hfl := sf.len.1
       have hfc := sf.len.2
       have hfm : cl1 ≤ 9223372036854775807 := by unfold maxLen at hfc; omega
       by_cases hlt3 : i < c.fFields.length
       rotate_left
       ·obtain rfl : i = c.fFields.length := by omega
        have hi2 : ¬ (c.fFields.length < cl1) := by omega
        have OK : Hid (pairOk p ⟨(xi : Int), xn⟩ ⟨(yi : Int), yn⟩ = true) := qhd (by rw [PF.out]; exact pairFits_ok HM.out (qat HA3.out rfl))
        clear hfl hfc
        have hEB := hbF.trans (hbs.mono hbF.size)
        go_wp2
        go_roundw
        case measure => simp [intOf]; omega
        case rel =>
         (repeat apply Exists.intro)
         first
          | exact ⟨(show 1 ≤ k + 1 by omega), by omega, by go_num, EachTo.step HA.out E0.out (by unfold overL; rw [if_neg (by omega)]; exact OK.out), hEB⟩
          | exact ⟨⟨(show 1 ≤ k + 1 by omega), by omega, by go_num, EachTo.step HA.out E0.out (by unfold overL; rw [if_neg (by omega)]; exact OK.out), hEB⟩, rfl⟩
       have hi2 : i < cl1 := by omega
       go_wp2_with fail
       obtain ⟨_, _, _, emf, _, _, _, h34⟩ := id sf
       cases emf
       obtain ⟨b4, off4, rfl, _, hbl4, hr4⟩ := h34 (by omega)
       obtain ⟨f, csf, f0, _, f1, f4⟩ := hr4 i (by omega)
       obtain ⟨rfl, bf1, bf2⟩ := f4
       have F0 := qhd f0
       have r0 := In.cell (show ws.cell? ⟨b4, off4 + i * 3, none⟩ = some (.string f.fName) from f1 0 _ rfl)
       have yn2 := In.cell n2
       have yo2 := In.cell o2
       have SF : ∀ y : In ws, Calls Tryz.prog 110 #[.slice da1 dl1 dc1, .string f.fName] y.x fun e w' => e = .returned (.int .i64 (fieldAt u.fFields f.fName)) ∧ y.x = w' := fun y => S_l2Field _ _ f.fName y.x (tf.stays qar (Keeps.of_below y.h))
       obtain ⟨q, hq⟩ : ∃ q, q = fieldAt u.fFields f.fName := ⟨_, rfl⟩
       rw [← hq] at SF
       have HQ := qhd hq
       have g1 : (i : Int) < (cl1 : Int) := by omega
       have g2 : (0 : Int) ≤ (i : Int) := by omega
       clear f0 f1 hr4 hq n2 o2 h34
       by_cases hq0 : 0 ≤ q
       ·have gq : decide (0 ≤ q) = true := by simpa using hq0
        have STOP : Hid (fieldFits u f = false) := qhd (by unfold fieldFits; rw [← HQ.out]; simp; omega)
        refine qaj (by kernel_rfl) (by kernel_rfl) ?_
        repeat (go_big_quiet_step (first | (go_at_call 110; exact Calls.ins_same (SF _))))
        refine wpQuiet_nil ?_
        rintro wZ ⟨⟨wE, hwE⟩, hq⟩
        obtain rfl : wE = wZ := hq.symm
        clear hq
        have hwEs := hwE.size
        (try dsimp only)
        have hEE := hbs.trans (hwE.mono hbs.size)
        have RV : Hid (z = false) := qhd (by rw [HZ.out]; exact overL_stop hk1 E0.out (by rw [PF.out]; exact pairFits_f (qan F0.out STOP.out)))
        go_wp2
        all_goals (try go_returns)
        all_goals exact HR.out _ _ ⟨by rw [RV.out]; rfl, HEX.out.trans (hEE.mono HEX.out.size)⟩
       have gq : decide (0 ≤ q) = false := by simpa using hq0
       have STEP : Hid (fieldFits u f = true) := qhd (by unfold fieldFits; rw [← HQ.out]; simp; omega)
       refine qaj (by kernel_rfl) (by kernel_rfl) ?_
       repeat (go_big_quiet_step (first | (go_at_call 110; exact Calls.ins_same (SF _))))
       refine wpQuiet_nil ?_
       rintro wZ ⟨⟨wE, hwE⟩, hq⟩
       obtain rfl : wE = wZ := hq.symm
       clear hq
       have hwEs := hwE.size
       (try dsimp only)
       have hEE := hb3.trans (hwE.mono hbx3)
       go_wp2
       go_roundw
       case measure => simp [intOf]; omega
       case rel => exact ⟨i + 1, by omega, by go_num, EachTo.step HA3.out F0.out STEP.out, hEE⟩
     have hj2 : j < cl2 := by omega
     have N3 := qhd n3
     have O3 := qhd o3
     go_wp2_with fail
     obtain ⟨_, _, _, emq, _, _, _, h32⟩ := id sm
     cases emq
     obtain ⟨b2, off2, rfl, _, hbl2, hr2⟩ := h32 (by omega)
     obtain ⟨m, csm, f0, _, f1, f4⟩ := hr2 j (by omega)
     obtain ⟨x1, x2, x3, rfl, t1, t2, t3, bm1, bm2⟩ := f4
     obtain ⟨xa1, xl1, xc1, rfl⟩ := t1.form
     obtain ⟨xa2, xl2, xc2, rfl⟩ := t2.form
     obtain ⟨xa3, xl3, xc3, rfl⟩ := t3.form
     have F0 := qhd f0
     have F1 := qhd f1
     have r0 := In.cell (show wq.cell? ⟨b2, off2 + j * 8, none⟩ = some (.string m.fName) from f1 0 _ rfl)
     have yn3 := In.cell n3
     have yo3 := In.cell o3
     have SM : ∀ y : In wq, Calls Tryz.prog 92 #[.slice da2 dl2 dc2, .string m.fName] y.x fun e w' => e = .returned (.int .i64 (methodAt u.fMethods m.fName)) ∧ y.x = w' := fun y => S_l2Method _ _ m.fName y.x (tm.stays qaq (Keeps.of_below y.h))
     obtain ⟨q, hq⟩ : ∃ q, q = methodAt u.fMethods m.fName := ⟨_, rfl⟩
     rw [← hq] at SM
     have HQ := qhd hq
     have g1 : (j : Int) < (cl2 : Int) := by omega
     have g2 : (0 : Int) ≤ (j : Int) := by omega
     clear f0 f1 hr2 hq n3 o3 h32
     refine qaj (by kernel_rfl) (by kernel_rfl) ?_
     repeat (go_big_quiet_step (first | (go_at_call 92; exact Calls.ins_same (SM _))))
     refine wpQuiet_nil ?_
     rintro wZ ⟨⟨wE, hwE⟩, hq⟩
     obtain rfl : wE = wZ := hq.symm
     clear hq
     have hwEs := hwE.size
     (try dsimp only)
     clear r0 yn3 yo3 SM
     have hEE := hb2.trans (hwE.mono hbx2)
     have hEz := hEE.size
     go_wp2_with fail
     by_cases hq0 : q < 0
     ·have STEP : Hid (methodFits p xi yi u m = true) := qhd (methodFits_none (by rw [← HQ.out]; exact hq0))
      have gq : decide (0 ≤ q) = false := by simp; omega
      refine qaj (by kernel_rfl) (by kernel_rfl) ?_
      repeat (go_big_quiet_step (first | fail))
      refine wpQuiet_nil ?_
      rintro wZ ⟨⟨wG, hwG⟩, hq⟩
      obtain rfl : wG = wZ := hq.symm
      clear hq
      have hwGs := hwG.size
      (try dsimp only)
      have hE3 := hEE.trans (hwG.mono hEz)
      go_wp2
      go_roundw
      case measure => simp [intOf]; omega
      case rel => exact ⟨j + 1, by omega, by go_num, EachTo.step HA2.out F0.out STEP.out, hE3⟩
     obtain ⟨n, rfl⟩ : ∃ n : Nat, q = (n : Int) := ⟨q.toNat, by omega⟩
     obtain ⟨x, hx⟩ := methodAt_row HQ.out.symm
     have MF : Hid (methodFits p xi yi u m = (sameSig m x && shapeP p xi yi m)) := qhd (methodFits_some HQ.out.symm hx)
     have hnl : n < dl2 := by rw [← tm.len.1]; exact (List.getElem?_eq_some_iff.1 hx).1
     obtain ⟨_, _, _, emq2, _, _, _, h33⟩ := id tm
     cases emq2
     obtain ⟨b3, off3, rfl, _, hbl3, hr3⟩ := h33 (by omega)
     obtain ⟨x', csx, g0', _, g1', g4⟩ := hr3 n hnl
     obtain rfl : x = x' := Option.some.inj (hx.symm.trans g0')
     obtain ⟨z1, z2, z3, rfl, w1, w2, w3, bn1, bn2⟩ := g4
     obtain ⟨za1, zl1, zc1, rfl⟩ := w1.form
     obtain ⟨za2, zl2, zc2, rfl⟩ := w2.form
     obtain ⟨za3, zl3, zc3, rfl⟩ := w3.form
     have gq : decide (0 ≤ (n : Int)) = true := by simp
     have gn1 : (n : Int) < (dl2 : Int) := by omega
     have gn2 : (0 : Int) ≤ (n : Int) := by omega
     have gz1 : (0 : Int) < (len : Int) := by omega
     have gk1 : (k : Int) < (len : Int) := by omega
     have gk2 : (0 : Int) ≤ (k : Int) := by omega
     have e3 := In.cell (qaa hwE N3.out)
     have d3 := In.cell (qaa hwE O3.out)
     have pl := In.cell (qaa hwE (qaa hb2 PX.out))
     have c1 := In.cell (qaa hwE (qaa hb2 QX.out))
     have c2 := In.cell (qaa hwE (qaa hb2 RX.out))
     have r0 := In.cell (qaa hwE (show wq.cell? ⟨b2, off2 + j * 8, none⟩ = some (.string m.fName) from F1.out 0 _ rfl))
     have r1 := In.cell (qaa hwE (show wq.cell? ⟨b2, off2 + j * 8 + 1, none⟩ = some (.slice xa1 xl1 xc1) from F1.out 1 _ rfl))
     have r2 := In.cell (qaa hwE (show wq.cell? ⟨b2, off2 + j * 8 + 2, none⟩ = some (.int .i64 m.fRet.fKind) from F1.out 2 _ rfl))
     have r3 := In.cell (qaa hwE (show wq.cell? ⟨b2, off2 + j * 8 + 3, none⟩ = some (.string m.fRet.fName) from F1.out 3 _ rfl))
     have r4 := In.cell (qaa hwE (show wq.cell? ⟨b2, off2 + j * 8 + 4, none⟩ = some (.int .i64 m.fLocals) from F1.out 4 _ rfl))
     have r5 := In.cell (qaa hwE (show wq.cell? ⟨b2, off2 + j * 8 + 5, none⟩ = some (.int .i64 m.fStack) from F1.out 5 _ rfl))
     have r6 := In.cell (qaa hwE (show wq.cell? ⟨b2, off2 + j * 8 + 6, none⟩ = some (.slice xa2 xl2 xc2) from F1.out 6 _ rfl))
     have r7 := In.cell (qaa hwE (show wq.cell? ⟨b2, off2 + j * 8 + 7, none⟩ = some (.slice xa3 xl3 xc3) from F1.out 7 _ rfl))
     have s0 := In.cell (qaa hwE (show wq.cell? ⟨b3, off3 + n * 8, none⟩ = some (.string x.fName) from g1' 0 _ rfl))
     have s1 := In.cell (qaa hwE (show wq.cell? ⟨b3, off3 + n * 8 + 1, none⟩ = some (.slice za1 zl1 zc1) from g1' 1 _ rfl))
     have s2 := In.cell (qaa hwE (show wq.cell? ⟨b3, off3 + n * 8 + 2, none⟩ = some (.int .i64 x.fRet.fKind) from g1' 2 _ rfl))
     have s3 := In.cell (qaa hwE (show wq.cell? ⟨b3, off3 + n * 8 + 3, none⟩ = some (.string x.fRet.fName) from g1' 3 _ rfl))
     have s4 := In.cell (qaa hwE (show wq.cell? ⟨b3, off3 + n * 8 + 4, none⟩ = some (.int .i64 x.fLocals) from g1' 4 _ rfl))
     have s5 := In.cell (qaa hwE (show wq.cell? ⟨b3, off3 + n * 8 + 5, none⟩ = some (.int .i64 x.fStack) from g1' 5 _ rfl))
     have s6 := In.cell (qaa hwE (show wq.cell? ⟨b3, off3 + n * 8 + 6, none⟩ = some (.slice za2 zl2 zc2) from g1' 6 _ rfl))
     have s7 := In.cell (qaa hwE (show wq.cell? ⟨b3, off3 + n * 8 + 7, none⟩ = some (.slice za3 zl3 zc3) from g1' 7 _ rfl))
     have SM : ∀ y : In wE, Calls Tryz.prog 115 #[.agg #[.string m.fName, .slice xa1 xl1 xc1, .int .i64 m.fRet.fKind, .string m.fRet.fName, .int .i64 m.fLocals, .int .i64 m.fStack, .slice xa2 xl2 xc2, .slice xa3 xl3 xc3], .agg #[.string x.fName, .slice za1 zl1 zc1, .int .i64 x.fRet.fKind, .string x.fRet.fName, .int .i64 x.fLocals, .int .i64 x.fStack, .slice za2 zl2 zc2, .slice za3 zl3 zc3]] y.x fun e w' => e = .returned (.bool (sameSig m x)) ∧ Below y.x.heap.size y.x w' := fun y =>
      S_l4Same m x _ _ _ _ _ _ _ _ _ _ _ _ _ _ y.x ((t1.stays qap (Keeps.of_below hwE)).stays qap (Keeps.of_below y.h)) ((w1.stays qap (Keeps.of_below hwE)).stays qap (Keeps.of_below y.h))
     have SH : ∀ y : In wE, Calls Tryz.prog 116 #[.agg #[.slice pa plen pcap], .int .i64 (xi : Int), .int .i64 (yi : Int), .agg #[.string m.fName, .slice xa1 xl1 xc1, .int .i64 m.fRet.fKind, .string m.fRet.fName, .int .i64 m.fLocals, .int .i64 m.fStack, .slice xa2 xl2 xc2, .slice xa3 xl3 xc3]] y.x fun e w' => e = .returned (.bool (shapeP p xi yi m)) ∧ Below y.x.heap.size y.x w' := fun y =>
      S_l4Shape p xi yi m _ _ _ _ _ _ _ _ y.x ((SX.out.stays rLodKeeper_good (Keeps.of_below hEE)).stays rLodKeeper_good (Keeps.of_below y.h)) HP.out hxi hyi ((t1.stays qap (Keeps.of_below hwE)).stays qap (Keeps.of_below y.h)) bm2
     clear g0' g1' hx hr3 h33 hq0
     cases hs1 : sameSig m x
     ·have STOP : Hid (methodFits p xi yi u m = false) := qhd (by rw [MF.out, hs1]; rfl)
      rw [hs1] at SM
      clear hs1
      refine qaj (by kernel_rfl) (by kernel_rfl) ?_
      repeat (go_big_quiet_step (first | (go_at_call 115; exact Calls.ins (SM _)) | (go_at_call 116; exact Calls.ins (SH _))))
      refine wpQuiet_nil ?_
      rintro wZ ⟨⟨wG, hwG⟩, hq⟩
      obtain rfl : wG = wZ := hq.symm
      clear hq
      have hwGs := hwG.size
      (try dsimp only)
      have hE3 := hEE.trans (hwG.mono hEz)
      have RV : Hid (z = false) := qhd (by rw [HZ.out]; exact overL_stop hk1 E0.out (by rw [PF.out]; exact pairFits_m (qan F0.out STOP.out)))
      go_wp2
      all_goals (try go_returns)
      all_goals exact HR.out _ _ ⟨by rw [RV.out]; rfl, HEX.out.trans (hE3.mono HEX.out.size)⟩
     cases hs2 : shapeP p xi yi m
     ·have STOP : Hid (methodFits p xi yi u m = false) := qhd (by rw [MF.out, hs1, hs2]; rfl)
      rw [hs1] at SM
      rw [hs2] at SH
      clear hs1 hs2
      refine qaj (by kernel_rfl) (by kernel_rfl) ?_
      repeat (go_big_quiet_step (first | (go_at_call 115; exact Calls.ins (SM _)) | (go_at_call 116; exact Calls.ins (SH _))))
      refine wpQuiet_nil ?_
      rintro wZ ⟨⟨wG, hwG⟩, hq⟩
      obtain rfl : wG = wZ := hq.symm
      clear hq
      have hwGs := hwG.size
      (try dsimp only)
      have hE3 := hEE.trans (hwG.mono hEz)
      have RV : Hid (z = false) := qhd (by rw [HZ.out]; exact overL_stop hk1 E0.out (by rw [PF.out]; exact pairFits_m (qan F0.out STOP.out)))
      go_wp2
      all_goals (try go_returns)
      all_goals exact HR.out _ _ ⟨by rw [RV.out]; rfl, HEX.out.trans (hE3.mono HEX.out.size)⟩
     have STEP : Hid (methodFits p xi yi u m = true) := qhd (by rw [MF.out, hs1, hs2]; rfl)
     rw [hs1] at SM
     rw [hs2] at SH
     clear hs1 hs2
     refine qaj (by kernel_rfl) (by kernel_rfl) ?_
     repeat (go_big_quiet_step (first | (go_at_call 115; exact Calls.ins (SM _)) | (go_at_call 116; exact Calls.ins (SH _))))
     refine wpQuiet_nil ?_
     rintro wZ ⟨⟨wG, hwG⟩, hq⟩
     obtain rfl : wG = wZ := hq.symm
     clear hq
     have hwGs := hwG.size
     (try dsimp only)
     have hE3 := hEE.trans (hwG.mono hEz)
     go_wp2
     go_roundw
     case measure => simp [intOf]; omega
     case rel => exact ⟨j + 1, by omega, by go_num, EachTo.step HA2.out F0.out STEP.out, hE3⟩

theorem Refs.sl {w : World} {base : Nat} {v : Value} {rs : List DLodRef} (h : Refs w base v rs) (hn : ∀ r ∈ rs, r.fName.size ≤ maxLen) : Sl 2 rLodRef 0 w v rs := by
 by_cases h0 : 0 < rs.length
 ·obtain ⟨g, cap, rfl, hb, hc, hm, hg⟩ := h.form h0
  refine ⟨_, _, _, rfl, rfl, hc, hm, fun _ => ⟨g, 0, rfl, Nat.zero_le _, hg, fun i hi => ?_⟩⟩
  obtain ⟨x, hx⟩ : ∃ x, rs[i]? = some x := ⟨_, List.getElem?_eq_getElem hi⟩
  obtain ⟨c1, c2⟩ := h.cell2 hx
  refine ⟨x, [.int .i64 x.fKeeper, .string x.fName], hx, rfl, fun j u hj => ?_, rfl, hn x (List.mem_of_getElem? hx)⟩
  match j, hj with
  | 0, hj => cases hj; simpa using c1
  | 1, hj => cases hj; simpa using c2
  | j + 2, hj => simp at hj
 ·obtain rfl : rs = [] := List.eq_nil_of_length_eq_zero (by omega)
  obtain ⟨va, vc, rfl⟩ := h.form0
  obtain ⟨_, h⟩ := h
  rcases h with ⟨e, _⟩ | ⟨g, cap, cur, h1, h2, h3, h4, h5, _⟩
  ·cases e; exact ⟨_, _, _, rfl, rfl, Nat.le_refl _, Nat.zero_le _, fun h => absurd h (by simp)⟩
  ·cases h1; exact ⟨_, _, _, rfl, rfl, h4, h5, fun h => absurd h (by simp)⟩
theorem Sl.drop {α : Type} {k : Nat} {R : RowRel α} {lo : Nat} {w : World} {b off len cap : Nat} {xs : List α} (h : Sl k R lo w (.slice (some ⟨b, off, none⟩) len cap) xs) {j : Nat} (hj : j ≤ len) : Sl k R lo w (.slice (some ⟨b, off + j * k, none⟩) (len - j) (cap - j)) (xs.drop j) := by
 obtain ⟨a', len', cap', e, hl, h1, h2, h3⟩ := h
 cases e
 refine ⟨_, _, _, rfl, by rw [List.length_drop, hl], by omega, by omega, fun hpos => ?_⟩
 obtain ⟨b', off', e, hlo, hbl, hr⟩ := h3 (by omega)
 cases e
 refine ⟨b, off + j * k, rfl, hlo, hbl, fun i hi => ?_⟩
 obtain ⟨x, cs, e0, e1, e2, e3⟩ := hr (j + i) (by omega)
 refine ⟨x, cs, by rw [List.getElem?_drop]; exact e0, e1, ?_, e3⟩
 rw [Nat.add_assoc, ← Nat.add_mul]; exact e2

theorem S_l4Laid (p : DLodPlan) (v1 : Value) (r : DLodRef) (rs : List DLodRef) (w : World) (s1 : Sl 2 rLodKeeper 0 w v1 p.fKeepers) (hp : lodOk p = true) (ht : There p r) (hr : chainR p r = some rs) :
  Calls Tryz.prog 46 #[.agg #[v1], .agg #[.int .i64 r.fKeeper, .string r.fName]] w fun e w' => e = .returned (.bool (laidL p rs)) ∧ Below w.heap.size w w' := by
 obtain ⟨a, len, cap, rfl⟩ := s1.form
 have HS := qhd s1
 have HP := qhd hp
 have HT := qhd ht
 have HRS := qhd hr
 have HAL := qhd (chainF_there hp 6 r rs ht hr)
 clear s1 hp ht hr
 obtain ⟨z, hz⟩ : ∃ z, z = laidL p rs := ⟨_, rfl⟩
 have HZ := qhd hz
 rw [← hz]
 clear hz
 refine qab fun R HR => ?_
 go_enter Tryz.func46, Tryz.ntmps46
 go_wp2_with fail
 refine (S_l3Chain p _ r _ (HS.out.stays rLodKeeper_good (Keeps.of_below' (B := w.heap.size) (bbel) (Nat.le_refl _))) HP.out HT.out).mono ?_
 rintro _ wB ⟨hB, v, rfl, hv⟩
 have hRB := hv rs HRS.out
 have hEB : Below w.heap.size w wB := bbel
 have hBs := (hB).size; (try simp only [qsz] at hBs)
 obtain ⟨hBbd, hBbo, hBbg, hBbp, hBbx, hBby, hBbc1, hBbf1, hBbz1⟩ := bf2 (n := w.heap.size) hB
 have p0 : wB.cell? ⟨w.heap.size, 0, none⟩ = some (.slice a len cap) := by go_simp
 have P0 := qhd p0
 obtain ⟨va, vc, rfl⟩ := hRB.form0
 have HRB := qhd hRB
 have SL := qhd (hRB.sl fun x hx => by obtain ⟨_, _, _, _, h⟩ := HAL.out x hx; exact h)
 obtain ⟨n, hnl⟩ : ∃ n, n = rs.length := ⟨_, rfl⟩
 rw [← hnl] at SL ⊢
 have HN := qhd hnl
 have hn63 : n ≤ 9223372036854775807 := by have := SL.out.len.2; unfold maxLen at this; omega
 have hncap := SL.out.len.2.1
 have SP := qhd (HS.out.stays rLodKeeper_good (Keeps.of_below hEB))
 clear hv hRB hBbd hBbg hBbx hBby hBbo hBbp hnl p0
 go_wp2_with fail
 go_loopw [7] (fun zi wr => ∃ k : Nat, k ≤ n ∧ zi = .int .i64 k ∧ EachTo (laidAt p rs) rs k = true ∧ Below wB.heap.size wB wr) (fun zi _ => n - (intOf zi).toNat)
 case atStart => exact ⟨0, Nat.zero_le _, rfl, rfl, Below.refl _ _⟩
 case round =>
  obtain ⟨k, hk, rfl, ha, hb⟩ := hrel
  have HA := qhd ha
  clear ha
  have hbx := hb.size
  by_cases hlt : k < n
  rotate_left
  ·obtain rfl : k = n := by omega
   have RV : Hid (z = true) := qhd (by rw [HZ.out]; exact qat HA.out HN.out.symm)
   go_wp2
   all_goals (try go_returns)
   all_goals exact HR.out _ _ ⟨by rw [RV.out]; rfl, hEB.trans (hb.mono hEB.size)⟩
  obtain ⟨x, hx⟩ : ∃ x, rs[k]? = some x := ⟨_, List.getElem?_eq_getElem (by rw [← HN.out]; exact hlt)⟩
  have X := qhd hx
  obtain ⟨g, rc, he, _, _, _, hgl⟩ := HRB.out.form (by rw [← HN.out]; omega)
  cases he
  have SD : Sl 2 rLodRef 0 wB (.slice (some ⟨g, 0 + k * 2, none⟩) (n - k) (vc - k)) (rs.drop k) := SL.out.drop (by omega)
  rw [Nat.zero_add] at SD
  have SDD := qhd SD
  have y0 := In.cell (qaa hb P0.out)
  obtain ⟨q, hq⟩ : ∃ q, q = laidAt p rs k x := ⟨_, rfl⟩
  have hgr : g < wr.heap.size := by omega
  have CO : ∀ y : In wr, Calls Tryz.prog 81 #[.agg #[.slice a len cap], .slice (some ⟨g, k * 2, none⟩) (n - k) (vc - k)] y.x fun e w' => e = .returned (.bool q) ∧ Below y.x.heap.size y.x w' := fun y => by
   have hk := (Keeps.of_below (lo := 0) hb).trans (Keeps.of_below (lo := 0) y.h)
   rw [hq]
   exact S_l4Over p _ _ x (rs.drop k) y.x (SP.out.stays rLodKeeper_good hk) HP.out (SDD.out.stays rLodRef_good hk) (by rw [List.getElem?_drop]; exact X.out) fun c hc => HAL.out c (List.mem_of_mem_drop hc)
  have HQ := qhd hq
  have g1 : (k : Int) ≤ (n : Int) := by omega
  have g2 : (0 : Int) ≤ (k : Int) := by omega
  have g3 : (k : Int) ≤ (vc : Int) := by omega
  have g4 : (n : Int) ≤ (vc : Int) := by omega
  clear hx hq SD
  go_wp2_with fail
  cases q
  ·have RV : Hid (z = false) := qhd (by rw [HZ.out]; exact qan X.out HQ.out.symm)
   refine qaj (by kernel_rfl) (by kernel_rfl) ?_
   repeat (go_big_quiet_step (first | (go_at_call 81; with_reducible exact Calls.ins (CO _))))
   refine wpQuiet_nil ?_
   rintro wZ ⟨⟨wE, hwE⟩, hq⟩
   obtain rfl : wE = wZ := hq.symm
   clear hq
   have hwEs := hwE.size
   (try dsimp only)
   have hEE := hb.trans (hwE.mono hbx)
   go_wp2
   all_goals (try go_returns)
   all_goals exact HR.out _ _ ⟨by rw [RV.out]; rfl, hEB.trans (hEE.mono hEB.size)⟩
  ·refine qaj (by kernel_rfl) (by kernel_rfl) ?_
   repeat (go_big_quiet_step (first | (go_at_call 81; with_reducible exact Calls.ins (CO _))))
   refine wpQuiet_nil ?_
   rintro wZ ⟨⟨wE, hwE⟩, hq⟩
   obtain rfl : wE = wZ := hq.symm
   clear hq
   have hwEs := hwE.size
   (try dsimp only)
   have hEE := hb.trans (hwE.mono hbx)
   go_wp2
   go_roundw
   case measure => simp [intOf]; omega
   case rel => exact ⟨k + 1, by omega, by go_num, EachTo.step HA.out X.out HQ.out.symm, hEE⟩

theorem lodChain_some {p : DLodPlan} {r : DLodRef} (hn : r.fName.size ≤ maxLen) (h : lodChain p r ≠ []) : lodOk p = true ∧ There p r ∧ chainR p r = some (lodChain p r) := by
 unfold lodChain at h
 by_cases h1 : (lodFind p r.fKeeper r.fName).2 = 1
 ·rw [if_pos h1] at h
  by_cases h2 : refEq (lodFind p r.fKeeper r.fName).1 r = true
  ·obtain ⟨ht, rs, hr, hc⟩ := lodChain_there hn h1 h2
   exact ⟨(lodFind_there hn h1).1, ht, by rw [hc, hr]⟩
  ·rw [if_neg h2] at h; exact absurd rfl h
 ·rw [if_neg h1] at h; exact absurd rfl h

theorem S_LnkLaid (x : DLodPlan) (v1 : Value) (r : DLodRef) (w : World) (s1 : Sl 2 rLodKeeper 0 w v1 x.fKeepers) (hn : r.fName.size ≤ maxLen) :
  Calls Tryz.prog 18 #[.agg #[v1], .agg #[.int .i64 r.fKeeper, .string r.fName]] w fun e w' => e = .returned (.bool (lnkLaid x r)) ∧ Below w.heap.size w w' := by
 obtain ⟨a, len, cap, rfl⟩ := s1.form
 have HS := qhd s1
 clear s1
 obtain ⟨z, hz⟩ : ∃ z, z = lnkLaid x r := ⟨_, rfl⟩
 have HZ := qhd hz
 rw [← hz]
 clear hz
 refine qab fun R HR => ?_
 go_enter Tryz.func18, Tryz.ntmps18
 go_wp2_with fail
 refine (S_LodChain x _ r _ (HS.out.stays rLodKeeper_good (Keeps.of_below' (B := w.heap.size) (bbel) (Nat.le_refl _))) hn).mono ?_
 rintro _ wA ⟨⟨v, rfl, hR⟩, hA⟩
 have hEA : Below w.heap.size w wA := bbel
 have hAs := (hA).size; (try simp only [qsz] at hAs)
 obtain ⟨hAad, hAao, hAag, hAap, hAax, hAay, hAac1, hAaf1, hAaz1⟩ := bf2 (n := w.heap.size) hA
 obtain ⟨va, vc, rfl⟩ := hR.form0
 obtain ⟨n, hnl⟩ : ∃ n, n = (lodChain x r).length := ⟨_, rfl⟩
 rw [← hnl]
 have HN := qhd hnl
 have LC : lodChain x r ≠ [] → lodOk x = true ∧ There x r ∧ chainR x r = some (lodChain x r) := lodChain_some hn
 have HLC := qhd LC
 clear hR hnl LC
 by_cases h0 : n = 0
 ·have RV : Hid (z = false) := qhd (by
   rw [HZ.out]; unfold lnkLaid
   rw [List.eq_nil_of_length_eq_zero (HN.out.symm.trans h0)]; rfl)
  subst h0
  go_wp2
  all_goals (try go_returns)
  all_goals exact HR.out _ _ ⟨by rw [RV.out]; rfl, bbel⟩
 have hne : lodChain x r ≠ [] := fun e => h0 (by rw [HN.out, e]; rfl)
 obtain ⟨h1, h2, h3⟩ := HLC.out hne
 have RV : Hid (z = laidL x (lodChain x r)) := qhd (by
  rw [HZ.out]; unfold lnkLaid
  cases e : lodChain x r with
  | nil => exact absurd e hne
  | cons _ _ => rfl)
 have H1 := qhd h1
 have H2 := qhd h2
 have H3 := qhd h3
 have hn0 : 0 < n := by omega
 clear h0 hne h1 h2 h3
 go_wp2_with fail
 refine (S_l4Laid x _ r (lodChain x r) _ (HS.out.stays rLodKeeper_good (Keeps.of_below (bbel))) H1.out H2.out H3.out).mono ?_
 rintro _ wC ⟨rfl, hC⟩
 have hCs := (hC).size; (try simp only [qsz] at hCs)
 go_wp2
 all_goals (try go_returns)
 all_goals exact HR.out _ _ ⟨by rw [RV.out]; rfl, bbel⟩

theorem I_fieldAt_one (x : DClsField) (nm : ByteArray) (B : Nat) (w : World) (hc : w.cell? ⟨B, 0, none⟩ = some (.string nm)) :
  Calls Tryz.prog 161 #[.agg #[.string x.fName, .int .i64 x.fKind.fKind, .string x.fKind.fName], .pointer (some ⟨B, 0, none⟩)] w fun e w' => e = .returned (.bool (sameN x.fName nm)) ∧ Below w.heap.size w w' := by
 have hB := block_lt_of_cell hc
 refine qab fun R HR => ?_
 go_enter Tryz.func161, Tryz.ntmps161
 go_wp2
 all_goals (try go_returns)
 all_goals exact HR.out _ _ ⟨qah (by first | rfl | (simp [sameN]; done)), bbel⟩

theorem I_fieldAt_index (xs : List DClsField) (v : Value) (nm : ByteArray) (B : Nat) (w : World) (hv : Sl 3 rClsField 0 w v xs) (hc : w.cell? ⟨B, 0, none⟩ = some (.string nm)) :
  Calls Tryz.prog 160 #[v, .func (.func 161) #[] #[.pointer (some ⟨B, 0, none⟩)]] w fun e w' => e = .returned (.int .i64 (fieldAt xs nm)) ∧ Below w.heap.size w w' := by
 obtain ⟨a, len, cap, rfl, hl, h1, h2, h3⟩ := id hv
 have m1 : len ≤ 9223372036854775807 := by unfold maxLen at h2; omega
 have HL := qhd hl
 have H3 := qhd h3
 clear h2 hl h1 h3
 refine qab fun R HR => ?_
 go_enter Tryz.func160, Tryz.ntmps160
 go_wp2_with fail
 go_loopw [5, 8] (fun _ zi wr => ∃ k : Nat, k ≤ len ∧ zi = .int .i64 k ∧ EachTo (nots fun f => sameN f.fName nm) xs k = true ∧ Below w.heap.size w wr) (fun _ zi _ => len - (intOf zi).toNat)
 case atStart => exact ⟨0, Nat.zero_le _, rfl, rfl, bbel⟩
 case round =>
  obtain ⟨k, hk, rfl, ha, hb⟩ := hrel
  have HA := qhd ha
  clear ha
  have hbx := hb.size
  by_cases hlt : k < len
  ·obtain ⟨b, off, rfl, _, _, hr⟩ := (H3.out.stays qar (Keeps.of_below hb)) (by omega)
   obtain ⟨x, cs, e0, e1, e2, e3⟩ := hr k hlt
   obtain ⟨rfl, bx1, bx2⟩ := e3
   have q0 : wr.cell? ⟨b, off + k * 3, none⟩ = some (.string x.fName) := e2 0 _ rfl
   have q1 : wr.cell? ⟨b, off + k * 3 + 1, none⟩ = some (.int .i64 x.fKind.fKind) := e2 1 _ rfl
   have q2 : wr.cell? ⟨b, off + k * 3 + 2, none⟩ = some (.string x.fKind.fName) := e2 2 _ rfl
   have E0 := qhd e0
   have hcw := qaa hb hc
   have CO := I_fieldAt_one x nm B wr hcw
   clear e0 e1 e2 hr
   cases hx : sameN x.fName nm
   ·have HX := qhd hx
    rw [hx] at CO
    clear hx
    go_wp2_with fail
    refine CO.mono ?_
    rintro _ w2 ⟨rfl, hb2⟩
    go_wp2
    go_roundw
    case rel => exact ⟨k + 1, by omega, by go_num, EachTo.step HA.out E0.out (by simp [nots, HX.out]), hb.trans (hb2.mono hbx)⟩
    case measure => simp [intOf]; omega
   ·have HX := qhd hx
    rw [hx] at CO
    clear hx
    go_wp2_with fail
    refine CO.mono ?_
    rintro _ w2 ⟨rfl, hb2⟩
    go_wp2
    all_goals (try go_returns)
    all_goals exact HR.out _ _ ⟨ret_int (firstAt_hit' HA.out E0.out HX.out).symm, hb.trans (hb2.mono hbx)⟩
  ·obtain rfl : k = len := by omega
   go_wp2
   all_goals (try go_returns)
   all_goals exact HR.out _ _ ⟨ret_int (firstAt_none' HA.out HL.out).symm, hb⟩

theorem I_fieldAt (c : DClsClass) (v1 v2 : Value) (nm : ByteArray) (w : World) (s1 : Sl 3 rClsField 0 w v1 c.fFields) (s2 : Sl 8 rClsMethod 0 w v2 c.fMethods) :
  Calls Tryz.prog 143 #[.agg #[.string c.fName, .string c.fSuper, v1, v2], .string nm] w fun e w' => e = .returned (.int .i64 (fieldAt c.fFields nm)) ∧ Below w.heap.size w w' := by
 obtain ⟨a, len, cap, rfl⟩ := s1.form
 obtain ⟨a', len', cap', rfl⟩ := s2.form
 have HS := qhd s1
 refine qab fun R HR => ?_
 go_enter Tryz.func143, Tryz.ntmps143
 go_wp2_with fail
 refine (I_fieldAt_index c.fFields _ nm (w.heap.size + 1) _ (HS.out.stays qar (Keeps.of_below' (B := w.heap.size) (bbel) (Nat.le_refl _))) (by go_simp)).mono ?_
 rintro _ w2 ⟨rfl, hb2⟩
 have hb2s := (hb2).size; (try simp only [qsz] at hb2s)
 go_wp2
 all_goals (try go_returns)
 all_goals exact HR.out _ _ ⟨rfl, bbel⟩

theorem I_methodAt_one (x : DClsMethod) (nm : ByteArray) (na1 na2 na3 : Option Addr) (nl1 nl2 nl3 nc1 nc2 nc3 : Nat) (B : Nat) (w : World) (hc : w.cell? ⟨B, 0, none⟩ = some (.string nm)) :
  Calls Tryz.prog 122 #[.agg #[.string x.fName, .slice na1 nl1 nc1, .int .i64 x.fRet.fKind, .string x.fRet.fName, .int .i64 x.fLocals, .int .i64 x.fStack, .slice na2 nl2 nc2, .slice na3 nl3 nc3], .pointer (some ⟨B, 0, none⟩)] w fun e w' => e = .returned (.bool (sameN x.fName nm)) ∧ Below w.heap.size w w' := by
 have hB := block_lt_of_cell hc
 refine qab fun R HR => ?_
 go_enter Tryz.func122, Tryz.ntmps122
 go_wp2
 all_goals (try go_returns)
 all_goals exact HR.out _ _ ⟨qah (by first | rfl | (simp [sameN]; done)), bbel⟩

theorem I_methodAt_index (xs : List DClsMethod) (v : Value) (nm : ByteArray) (B : Nat) (w : World) (hv : Sl 8 rClsMethod 0 w v xs) (hc : w.cell? ⟨B, 0, none⟩ = some (.string nm)) :
  Calls Tryz.prog 121 #[v, .func (.func 122) #[] #[.pointer (some ⟨B, 0, none⟩)]] w fun e w' => e = .returned (.int .i64 (methodAt xs nm)) ∧ Below w.heap.size w w' := by
 obtain ⟨a, len, cap, rfl, hl, h1, h2, h3⟩ := id hv
 have m1 : len ≤ 9223372036854775807 := by unfold maxLen at h2; omega
 have HL := qhd hl
 have H3 := qhd h3
 clear h2 hl h1 h3
 refine qab fun R HR => ?_
 go_enter Tryz.func121, Tryz.ntmps121
 go_wp2_with fail
 go_loopw [5, 8] (fun _ zi wr => ∃ k : Nat, k ≤ len ∧ zi = .int .i64 k ∧ EachTo (nots fun f => sameN f.fName nm) xs k = true ∧ Below w.heap.size w wr) (fun _ zi _ => len - (intOf zi).toNat)
 case atStart => exact ⟨0, Nat.zero_le _, rfl, rfl, bbel⟩
 case round =>
  obtain ⟨k, hk, rfl, ha, hb⟩ := hrel
  have HA := qhd ha
  clear ha
  have hbx := hb.size
  by_cases hlt : k < len
  ·obtain ⟨b, off, rfl, _, _, hr⟩ := (H3.out.stays qaq (Keeps.of_below hb)) (by omega)
   obtain ⟨x, cs, e0, e1, e2, e3⟩ := hr k hlt
   obtain ⟨v1, v2, v3, rfl, s1, s2, s3, b1, b2⟩ := e3
   obtain ⟨na1, nl1, nc1, rfl⟩ := s1.form
   obtain ⟨na2, nl2, nc2, rfl⟩ := s2.form
   obtain ⟨na3, nl3, nc3, rfl⟩ := s3.form
   have q0 : wr.cell? ⟨b, off + k * 8, none⟩ = some (.string x.fName) := e2 0 _ rfl
   have q1 : wr.cell? ⟨b, off + k * 8 + 1, none⟩ = some (.slice na1 nl1 nc1) := e2 1 _ rfl
   have q2 : wr.cell? ⟨b, off + k * 8 + 2, none⟩ = some (.int .i64 x.fRet.fKind) := e2 2 _ rfl
   have q3 : wr.cell? ⟨b, off + k * 8 + 3, none⟩ = some (.string x.fRet.fName) := e2 3 _ rfl
   have q4 : wr.cell? ⟨b, off + k * 8 + 4, none⟩ = some (.int .i64 x.fLocals) := e2 4 _ rfl
   have q5 : wr.cell? ⟨b, off + k * 8 + 5, none⟩ = some (.int .i64 x.fStack) := e2 5 _ rfl
   have q6 : wr.cell? ⟨b, off + k * 8 + 6, none⟩ = some (.slice na2 nl2 nc2) := e2 6 _ rfl
   have q7 : wr.cell? ⟨b, off + k * 8 + 7, none⟩ = some (.slice na3 nl3 nc3) := e2 7 _ rfl
   have E0 := qhd e0
   have hcw := qaa hb hc
   have CO := I_methodAt_one x nm na1 na2 na3 nl1 nl2 nl3 nc1 nc2 nc3 B wr hcw
   clear e0 e1 e2 hr
   cases hx : sameN x.fName nm
   ·have HX := qhd hx
    rw [hx] at CO
    clear hx
    go_wp2_with fail
    refine CO.mono ?_
    rintro _ w2 ⟨rfl, hb2⟩
    go_wp2
    go_roundw
    case rel => exact ⟨k + 1, by omega, by go_num, EachTo.step HA.out E0.out (by simp [nots, HX.out]), hb.trans (hb2.mono hbx)⟩
    case measure => simp [intOf]; omega
   ·have HX := qhd hx
    rw [hx] at CO
    clear hx
    go_wp2_with fail
    refine CO.mono ?_
    rintro _ w2 ⟨rfl, hb2⟩
    go_wp2
    all_goals (try go_returns)
    all_goals exact HR.out _ _ ⟨ret_int (firstAt_hit' HA.out E0.out HX.out).symm, hb.trans (hb2.mono hbx)⟩
  ·obtain rfl : k = len := by omega
   go_wp2
   all_goals (try go_returns)
   all_goals exact HR.out _ _ ⟨ret_int (firstAt_none' HA.out HL.out).symm, hb⟩

theorem I_methodAt (c : DClsClass) (v1 v2 : Value) (nm : ByteArray) (w : World) (s1 : Sl 3 rClsField 0 w v1 c.fFields) (s2 : Sl 8 rClsMethod 0 w v2 c.fMethods) :
  Calls Tryz.prog 90 #[.agg #[.string c.fName, .string c.fSuper, v1, v2], .string nm] w fun e w' => e = .returned (.int .i64 (methodAt c.fMethods nm)) ∧ Below w.heap.size w w' := by
 obtain ⟨a, len, cap, rfl⟩ := s1.form
 obtain ⟨a', len', cap', rfl⟩ := s2.form
 have HS := qhd s2
 refine qab fun R HR => ?_
 go_enter Tryz.func90, Tryz.ntmps90
 go_wp2_with fail
 refine (I_methodAt_index c.fMethods _ nm (w.heap.size + 1) _ (HS.out.stays qaq (Keeps.of_below' (B := w.heap.size) (bbel) (Nat.le_refl _))) (by go_simp)).mono ?_
 rintro _ w2 ⟨rfl, hb2⟩
 have hb2s := (hb2).size; (try simp only [qsz] at hb2s)
 go_wp2
 all_goals (try go_returns)
 all_goals exact HR.out _ _ ⟨rfl, bbel⟩

theorem I_agreeMethod (p : DLodPlan) (L i j : Nat) (m : DClsMethod) (v1 : Value) (a2 a3 : Option Addr) (l2 l3 k2 k3 : Nat) (w : World) (hl : Lodge w L p) (hp : lodOk p = true) (hi : i < p.fKeepers.length) (hj : j < p.fKeepers.length) (s1 : Sl 2 rKndKind 0 w v1 m.fArgs) (hn : m.fRet.fName.size ≤ maxLen) :
  Calls Tryz.prog 144 #[.pointer (some ⟨L, 0, none⟩), .int .i64 (i : Int), .int .i64 (j : Int), .agg #[.string m.fName, v1, .int .i64 m.fRet.fKind, .string m.fRet.fName, .int .i64 m.fLocals, .int .i64 m.fStack, .slice a2 l2 k2, .slice a3 l3 k3]] w fun e w' => e = .returned (.bool (shapeP p i j m)) ∧ Below w.heap.size w w' := by
 obtain ⟨a, len, cap, rfl, hlen, h1, h2, h3⟩ := id s1
 have m1 : len ≤ 9223372036854775807 := by unfold maxLen at h2; omega
 have HLN := qhd hlen
 have HL := qhd hl
 have HP := qhd hp
 clear h2 hlen h1 hl hp
 obtain ⟨z, hz⟩ : ∃ z, z = shapeP p i j m := ⟨_, rfl⟩
 have HZ := qhd hz
 rw [← hz]
 clear hz
 have AG : ∀ (W : World) (kd : DKndKind), kd.fName.size ≤ maxLen → Below w.heap.size w W → Calls Tryz.prog 57 #[.pointer (some ⟨L, 0, none⟩), .int .i64 (i : Int), .int .i64 (j : Int), .agg #[.int .i64 kd.fKind, .string kd.fName]] W fun e w' => e = .returned (.bool (agreeP p i j kd)) ∧ Below W.heap.size W w' := fun W kd hk hW => I_agree p L i j kd W (HL.out.below hW) HP.out hi hj hk
 refine qab fun R HR => ?_
 go_enter Tryz.func144, Tryz.ntmps144
 go_wp2_with fail
 obtain ⟨wS, hwS⟩ : ∃ wS, wS = w.alloc (.cells #[.string m.fName, .slice a len cap, .int .i64 m.fRet.fKind, .string m.fRet.fName, .int .i64 m.fLocals, .int .i64 m.fStack, .slice a2 l2 k2, .slice a3 l3 k3] 76) := ⟨_, rfl⟩
 rw [← hwS]
 have hES : Below w.heap.size w wS := by rw [hwS]; exact bbel
 have hzS := hES.size
 have c2 : wS.cell? ⟨w.heap.size, 2, none⟩ = some (.int .i64 m.fRet.fKind) := by rw [hwS]; go_simp
 have c3 : wS.cell? ⟨w.heap.size, 3, none⟩ = some (.string m.fRet.fName) := by rw [hwS]; go_simp
 have C2 := qhd c2
 have C3 := qhd c3
 clear hwS c2 c3
 go_loopw [14] (fun zi wr => ∃ k : Nat, k ≤ len ∧ zi = .int .i64 k ∧ EachTo (fun _ k => agreeP p i j k) m.fArgs k = true ∧ Below wS.heap.size wS wr) (fun zi _ => len - (intOf zi).toNat)
 case atStart => exact ⟨0, Nat.zero_le _, rfl, rfl, Below.refl _ _⟩
 case round =>
  obtain ⟨k, hk, rfl, ha, hb⟩ := hrel
  have HA := qhd ha
  clear ha
  have hbx := hb.size
  have hEr := hES.trans (hb.mono hzS)
  have hErs := hEr.size
  by_cases hlt : k < len
  ·obtain ⟨b, off, rfl, _, _, hr⟩ := h3.stays qap (Keeps.of_below hEr) (by omega)
   obtain ⟨⟨xk, xn⟩, cs, e0, _, e1, e4⟩ := hr k hlt
   obtain ⟨rfl, bx⟩ := e4
   have q1 : wr.cell? ⟨b, off + k * 2, none⟩ = some (.int .i64 xk) := e1 0 _ rfl
   have q2 : wr.cell? ⟨b, off + k * 2 + 1, none⟩ = some (.string xn) := e1 1 _ rfl
   have E0 := qhd e0
   clear e0 e1 hr
   go_wp2_with fail
   refine (AG _ ⟨xk, xn⟩ bx (bbel)).mono ?_
   rintro _ wE ⟨rfl, hE⟩
   have hEs := (hE).size; (try simp only [qsz] at hEs)
   have hE2 : Below wS.heap.size wS wE := (hb.alloc hbx _).trans (hE.mono (by simp; omega))
   cases hq : agreeP p i j ⟨xk, xn⟩
   ·have RV : Hid (z = false) := qhd (by rw [HZ.out]; exact shapeP_stop (qan E0.out hq))
    clear hq
    go_wp2
    all_goals (try go_returns)
    all_goals exact HR.out _ _ ⟨by rw [RV.out]; rfl, hES.trans (hE2.mono hzS)⟩
   ·have HQ := qhd hq
    clear hq
    go_wp2
    go_roundw
    case measure => simp [intOf]; omega
    case rel => exact ⟨k + 1, by omega, by go_num, EachTo.step HA.out E0.out HQ.out, hE2⟩
  ·obtain rfl : k = len := by omega
   have RV : Hid (z = agreeP p i j m.fRet) := qhd (by rw [HZ.out]; unfold shapeP; rw [qat HA.out HLN.out]; rfl)
   have c2 := qaa hb C2.out
   have c3 := qaa hb C3.out
   go_wp2_with fail
   refine (AG _ m.fRet hn hEr).mono ?_
   rintro _ wE ⟨rfl, hE⟩
   go_wp2
   all_goals (try go_returns)
   all_goals exact HR.out _ _ ⟨by rw [RV.out]; rfl, hEr.trans (hE.mono hErs)⟩

theorem unal {w w' : World} {o : Obj} (h : Below (w.alloc o).heap.size (w.alloc o) w') : Below w.heap.size w w' := ((Below.refl _ _).alloc (Nat.le_refl _) o).trans (h.mono (by simp))
theorem fresh4x {w w' : World} {t : TypeId} {u0 u1 u2 u3 : Value} (h : Below ((w.alloc (.cells #[u0, u1, u2, u3] t)).alloc (.cells #[u0, u1, u2, u3] t)).drew.heap.size ((w.alloc (.cells #[u0, u1, u2, u3] t)).alloc (.cells #[u0, u1, u2, u3] t)).drew w') : w'.cell? ⟨w.heap.size, 0, none⟩ = some u0 ∧ w'.cell? ⟨w.heap.size, 1, none⟩ = some u1 ∧ w'.cell? ⟨w.heap.size, 2, none⟩ = some u2 ∧ w'.cell? ⟨w.heap.size, 3, none⟩ = some u3 ∧ w'.frozen? ⟨w.heap.size, 0, none⟩ = false ∧ w'.frozen? ⟨w.heap.size, 1, none⟩ = false ∧ w'.frozen? ⟨w.heap.size, 2, none⟩ = false ∧ w'.frozen? ⟨w.heap.size, 3, none⟩ = false ∧ w'.cell? ⟨w.heap.size + 1, 0, none⟩ = some u0 ∧ w'.cell? ⟨w.heap.size + 1, 1, none⟩ = some u1 ∧ w'.cell? ⟨w.heap.size + 1, 2, none⟩ = some u2 ∧ w'.cell? ⟨w.heap.size + 1, 3, none⟩ = some u3 ∧ w'.frozen? ⟨w.heap.size + 1, 0, none⟩ = false ∧ w'.frozen? ⟨w.heap.size + 1, 1, none⟩ = false ∧ w'.frozen? ⟨w.heap.size + 1, 2, none⟩ = false ∧ w'.frozen? ⟨w.heap.size + 1, 3, none⟩ = false ∧ w.heap.size + 1 < w'.heap.size := by
 have hz := h.size
 simp only [World.size_alloc, World.size_drew] at hz
 refine ⟨?_, ?_, ?_, ?_, ?_, ?_, ?_, ?_, ?_, ?_, ?_, ?_, ?_, ?_, ?_, ?_, by omega⟩
 all_goals first
  | (refine (h.cell ?_).trans ?_ <;> first | (simp only [World.size_alloc, World.size_drew]; omega) | go_simp)
  | (refine (h.frozen ?_).trans ?_ <;> first | (simp only [World.size_alloc, World.size_drew]; omega) | go_simp)
theorem fresh4d {w w' : World} {t : TypeId} {u0 u1 u2 u3 : Value} (h : Below (w.alloc (.cells #[u0, u1, u2, u3] t)).drew.heap.size (w.alloc (.cells #[u0, u1, u2, u3] t)).drew w') :
  w'.cell? ⟨w.heap.size, 0, none⟩ = some u0 ∧ w'.cell? ⟨w.heap.size, 1, none⟩ = some u1 ∧ w'.cell? ⟨w.heap.size, 2, none⟩ = some u2 ∧ w'.cell? ⟨w.heap.size, 3, none⟩ = some u3 ∧ w'.frozen? ⟨w.heap.size, 0, none⟩ = false ∧ w'.frozen? ⟨w.heap.size, 1, none⟩ = false ∧ w'.frozen? ⟨w.heap.size, 2, none⟩ = false ∧ w'.frozen? ⟨w.heap.size, 3, none⟩ = false ∧ w.heap.size < w'.heap.size := fresh4 h
theorem fresh4y {w w' : World} {t : TypeId} {u0 u1 u2 u3 : Value} (h : Below (w.alloc (.cells #[u0, u1, u2, u3] t)).heap.size (w.alloc (.cells #[u0, u1, u2, u3] t)) w') : w'.cell? ⟨w.heap.size, 0, none⟩ = some u0 ∧ w'.cell? ⟨w.heap.size, 1, none⟩ = some u1 ∧ w'.cell? ⟨w.heap.size, 2, none⟩ = some u2 ∧ w'.cell? ⟨w.heap.size, 3, none⟩ = some u3 ∧ w'.frozen? ⟨w.heap.size, 0, none⟩ = false ∧ w'.frozen? ⟨w.heap.size, 1, none⟩ = false ∧ w'.frozen? ⟨w.heap.size, 2, none⟩ = false ∧ w'.frozen? ⟨w.heap.size, 3, none⟩ = false ∧ w.heap.size < w'.heap.size := by
 have hz := h.size
 simp only [World.size_alloc, World.size_drew] at hz
 refine ⟨?_, ?_, ?_, ?_, ?_, ?_, ?_, ?_, by omega⟩
 all_goals first
  | (refine (h.cell ?_).trans ?_ <;> first | (simp only [World.size_alloc, World.size_drew]; omega) | go_simp)
  | (refine (h.frozen ?_).trans ?_ <;> first | (simp only [World.size_alloc, World.size_drew]; omega) | go_simp)
theorem fresh4z {w w' : World} {t : TypeId} {u0 u1 u2 u3 : Value} (h : Below ((w.alloc (.cells #[u0, u1, u2, u3] t)).alloc (.cells #[u0, u1, u2, u3] t)).heap.size ((w.alloc (.cells #[u0, u1, u2, u3] t)).alloc (.cells #[u0, u1, u2, u3] t)) w') : w'.cell? ⟨w.heap.size, 0, none⟩ = some u0 ∧ w'.cell? ⟨w.heap.size, 1, none⟩ = some u1 ∧ w'.cell? ⟨w.heap.size, 2, none⟩ = some u2 ∧ w'.cell? ⟨w.heap.size, 3, none⟩ = some u3 ∧ w'.frozen? ⟨w.heap.size, 0, none⟩ = false ∧ w'.frozen? ⟨w.heap.size, 1, none⟩ = false ∧ w'.frozen? ⟨w.heap.size, 2, none⟩ = false ∧ w'.frozen? ⟨w.heap.size, 3, none⟩ = false ∧ w'.cell? ⟨w.heap.size + 1, 0, none⟩ = some u0 ∧ w'.cell? ⟨w.heap.size + 1, 1, none⟩ = some u1 ∧ w'.cell? ⟨w.heap.size + 1, 2, none⟩ = some u2 ∧ w'.cell? ⟨w.heap.size + 1, 3, none⟩ = some u3 ∧ w'.frozen? ⟨w.heap.size + 1, 0, none⟩ = false ∧ w'.frozen? ⟨w.heap.size + 1, 1, none⟩ = false ∧ w'.frozen? ⟨w.heap.size + 1, 2, none⟩ = false ∧ w'.frozen? ⟨w.heap.size + 1, 3, none⟩ = false ∧ w.heap.size + 1 < w'.heap.size := by
 have hz := h.size
 simp only [World.size_alloc, World.size_drew] at hz
 refine ⟨?_, ?_, ?_, ?_, ?_, ?_, ?_, ?_, ?_, ?_, ?_, ?_, ?_, ?_, ?_, ?_, by omega⟩
 all_goals first
  | (refine (h.cell ?_).trans ?_ <;> first | (simp only [World.size_alloc, World.size_drew]; omega) | go_simp)
  | (refine (h.frozen ?_).trans ?_ <;> first | (simp only [World.size_alloc, World.size_drew]; omega) | go_simp)

theorem I_pairLaid (p : DLodPlan) (L : Nat) (ra rb : DLodRef) (w : World) (hl : Lodge w L p) (hp : lodOk p = true) (ta : There p ra) (tb : There p rb) :
  Calls Tryz.prog 113 #[.pointer (some ⟨L, 0, none⟩), .agg #[.int .i64 ra.fKeeper, .string ra.fName], .agg #[.int .i64 rb.fKeeper, .string rb.fName]] w fun e w' => e = .returned (.bool (pairOk p ra rb)) ∧ Below w.heap.size w w' := by
 obtain ⟨c, hc⟩ := ta.cls
 obtain ⟨u, hu⟩ := tb.cls
 obtain ⟨ak, an⟩ := ra
 obtain ⟨bk, bn⟩ := rb
 obtain ⟨xi, h1, hxi, _, hna⟩ := ta
 obtain ⟨yi, h2, hyi, _, hnb⟩ := tb
 dsimp only at h1 h2 hna hnb
 subst h1 h2
 have HL := qhd hl
 have HP := qhd hp
 have HC := qhd hc
 have HU := qhd hu
 obtain ⟨z, hz⟩ : ∃ z, z = pairFits p xi yi c u := ⟨_, rfl⟩
 have HZ := qhd hz
 rw [pairOk_cls hc hu, ← hz]
 dsimp only
 clear hz hl hp hc hu
 refine qab fun R HR => ?_
 go_enter Tryz.func113, Tryz.ntmps113
 go_upto_region 1 with fail
 go_cut [7, 8] from 15 to 20 (fun v7 v8 wx => ∃ (B D : Nat), v7 = .pointer (some ⟨B, 0, none⟩) ∧ v8 = .pointer (some ⟨D, 0, none⟩) ∧ Below w.heap.size w wx ∧ wx.cell? ⟨w.heap.size, 0, none⟩ = some (.int .i64 (xi : Int)) ∧ wx.cell? ⟨w.heap.size + 1, 0, none⟩ = some (.int .i64 (yi : Int)) ∧ ClsAt wx B c ∧ ClsAt wx D u)
 case first =>
  obtain ⟨wS, hwS⟩ : ∃ wS, wS = (w.alloc (.cells #[.int .i64 (xi : Int), .string an] 42)).alloc (.cells #[.int .i64 (yi : Int), .string bn] 42) := ⟨_, rfl⟩
  rw [← hwS]
  have hES : Below w.heap.size w wS := by rw [hwS]; exact bbel
  have hzS := hES.size
  have hzS2 : w.heap.size + 1 < wS.heap.size := by rw [hwS]; simp
  have j0 : wS.cell? ⟨w.heap.size, 0, none⟩ = some (.int .i64 (xi : Int)) := by rw [hwS]; go_simp
  have j1 : wS.cell? ⟨w.heap.size, 1, none⟩ = some (.string an) := by rw [hwS]; go_simp
  have j2 : wS.cell? ⟨w.heap.size + 1, 0, none⟩ = some (.int .i64 (yi : Int)) := by rw [hwS]; go_simp
  have j3 : wS.cell? ⟨w.heap.size + 1, 1, none⟩ = some (.string bn) := by rw [hwS]; go_simp
  have k0 : ∀ W, Below wS.heap.size wS W → W.cell? ⟨w.heap.size, 0, none⟩ = some (.int .i64 (xi : Int)) := fun W hW => qaa hW j0
  have k1 : ∀ W, Below wS.heap.size wS W → W.cell? ⟨w.heap.size, 1, none⟩ = some (.string an) := fun W hW => qaa hW j1
  have k2 : ∀ W, Below wS.heap.size wS W → W.cell? ⟨w.heap.size + 1, 0, none⟩ = some (.int .i64 (yi : Int)) := fun W hW => qaa hW j2
  have k3 : ∀ W, Below wS.heap.size wS W → W.cell? ⟨w.heap.size + 1, 1, none⟩ = some (.string bn) := fun W hW => qaa hW j3
  have K0 := qhd k0
  have K2 := qhd k2
  have SS := qhd (HL.out.below hES)
  obtain ⟨v1, hv1, IC1⟩ := I_classV p L ⟨(xi : Int), an⟩ c wS SS.out HC.out hna HP.out
  obtain ⟨v2, hv2, IC2⟩ := I_classV p L ⟨(yi : Int), bn⟩ u wS SS.out HU.out hnb HP.out
  obtain ⟨a1, l1, c1, a2, l2, c2, rfl, hs1, hs2, hn1, hn2⟩ := hv1
  obtain ⟨b1, m1, d1, b2, m2, d2, rfl, ht1, ht2, hu1, hu2⟩ := hv2
  clear hwS j0 j1 j2 j3
  have keepA : ∀ x x' : World, Below x.heap.size x x' → Below wS.heap.size wS x → Below wS.heap.size wS x' := fun x x' hb e => keep_below hb e (Nat.le_refl _)
  go_region_held3 (fun x => Below wS.heap.size wS x) ((first | (with_reducible exact (Below.refl _ _).drew) | (with_reducible assumption) | (with_reducible exact keepA _ _ (by with_reducible assumption) (by with_reducible assumption)) | (with_reducible exact al0 (by with_reducible assumption)) | ((repeat (first | (with_reducible refine Below.drew ?_) | (with_reducible refine Below.setCell ?_ ?_ _) | (with_reducible refine Below.alloc ?_ ?_ _))); all_goals (first | (with_reducible assumption) | (with_reducible exact Below.refl _ _) | ((try simp only [qsz]); (try dsimp only); omega))))) (first | (go_at_call 84; (with_reducible refine (IC1 _ (by assumption)).mono ?_); rintro _ wp ⟨rfl, hcallp⟩; have hSp := keepA _ _ hcallp (by assumption); have hSps := hSp.size; have hcsp := hcallp.size; (try simp only [World.size_alloc, World.size_drew, World.size_setCell] at hcsp); (first | ((with_reducible have hfr := fresh4x hcallp); obtain ⟨z0p, z1p, z2p, z3p, f0p, f1p, f2p, f3p, y0p, y1p, y2p, y3p, g0p, g1p, g2p, g3p, zlp⟩ := hfr) | ((with_reducible have hfr := fresh4d hcallp); obtain ⟨z0p, z1p, z2p, z3p, f0p, f1p, f2p, f3p, zlp⟩ := hfr) | skip)) | (go_at_call 84; (with_reducible refine (IC2 _ (by assumption)).mono ?_); rintro _ wq ⟨rfl, hcallq⟩; have hSq := keepA _ _ hcallq (by assumption); have hSqs := hSq.size; have hcsq := hcallq.size; (try simp only [World.size_alloc, World.size_drew, World.size_setCell] at hcsq); (first | ((with_reducible have hfr := fresh4z hcallq); obtain ⟨z0q, z1q, z2q, z3q, f0q, f1q, f2q, f3q, y0q, y1q, y2q, y3q, g0q, g1q, g2q, g3q, zlq⟩ := hfr) | ((with_reducible have hfr := fresh4y hcallq); obtain ⟨z0q, z1q, z2q, z3q, f0q, f1q, f2q, f3q, zlq⟩ := hfr) | skip); (have hpq : Below wp.heap.size wp wq := by first | (with_reducible exact hcallq) | (with_reducible exact unal hcallq) | (with_reducible exact unal (unal hcallq))); (try (replace f0p := qas hpq z0p f0p; replace f1p := qas hpq z1p f1p; replace f2p := qas hpq z2p f2p; replace f3p := qas hpq z3p f3p; replace z0p := qaa hpq z0p; replace z1p := qaa hpq z1p; replace z2p := qaa hpq z2p; replace z3p := qaa hpq z3p; have zlp2 := Nat.lt_of_lt_of_le zlp hpq.size)); (try (replace g0p := qas hpq y0p g0p; replace g1p := qas hpq y1p g1p; replace g2p := qas hpq y2p g2p; replace g3p := qas hpq y3p g3p; replace y0p := qaa hpq y0p; replace y1p := qaa hpq y1p; replace y2p := qaa hpq y2p; replace y3p := qaa hpq y3p))))
  all_goals
   clear k0 k1 k2 k3 keepA IC1 IC2
   rename_i hF
   go_wp2_with fail
   go_meet
   case rel =>
    exact ⟨_, _, rfl, rfl, hES.trans (hF.mono hzS), K0.out _ hF, K2.out _ hF, ⟨a1, l1, c1, a2, l2, c2, by go_simp, by go_simp, by go_simp, by go_simp, hs1.stays qar (Keeps.of_below hF), hs2.stays qaq (Keeps.of_below hF)⟩, ⟨b1, m1, d1, b2, m2, d2, by go_simp, by go_simp, by go_simp, by go_simp, ht1.stays qar (Keeps.of_below hF), ht2.stays qaq (Keeps.of_below hF)⟩⟩
 case rest =>
  obtain ⟨B, D, rfl, rfl, hE, c0, d0, hB, hD⟩ := hcut
  obtain ⟨wx, hwx⟩ : ∃ x, x = wc := ⟨_, rfl⟩
  subst hwx
  have HE := qhd hE
  have HB := qhd hB
  have HD := qhd hD
  have C0 := qhd c0
  have D0 := qhd d0
  have hEs := hE.size
  have LX := qhd (HL.out.below hE)
  obtain ⟨ca1, cl1, cc1, ca2, cl2, cc2, n0, n1, n2, n3, sf, sm⟩ := hB
  have hfl := sf.len.1
  have hfc := sf.len.2
  have hfm : cl1 ≤ 9223372036854775807 := by unfold maxLen at hfc; omega
  have SF := qhd sf
  clear hE hD c0 d0 n0 n1 n3 sf sm
  go_wp2_with fail
  clear n2
  go_loopw [24] (fun zi wr => ∃ k : Nat, k ≤ cl1 ∧ zi = .int .i64 k ∧ EachTo (fun _ f => fieldFits u f) c.fFields k = true ∧ Below wx.heap.size wx wr) (fun zi _ => cl1 - (intOf zi).toNat)
  case atStart => exact ⟨0, Nat.zero_le _, rfl, rfl, Below.refl _ _⟩
  case round =>
   obtain ⟨k, hk, rfl, ha, hb⟩ := hrel
   have HA := qhd ha
   clear ha
   have hbx := hb.size
   by_cases hlt : k < cl1
   ·obtain ⟨a', len', cap', e', _, _, _, hsl⟩ := SF.out
    cases e'
    obtain ⟨b, off, rfl, _, hbl, hr⟩ := hsl (by omega)
    obtain ⟨x, cs, e0, _, e1, e4⟩ := hr k hlt
    obtain ⟨rfl, bx1, bx2⟩ := e4
    have q0 : wr.cell? ⟨b, off + k * 3, none⟩ = some (.string x.fName) := qaa hb (show wx.cell? ⟨b, off + k * 3, none⟩ = some (.string x.fName) from e1 0 _ rfl)
    have q1 : wr.cell? ⟨b, off + k * 3 + 1, none⟩ = some (.int .i64 x.fKind.fKind) := qaa hb (show wx.cell? ⟨b, off + k * 3 + 1, none⟩ = some (.int .i64 x.fKind.fKind) from e1 1 _ rfl)
    have q2 : wr.cell? ⟨b, off + k * 3 + 2, none⟩ = some (.string x.fKind.fName) := qaa hb (show wx.cell? ⟨b, off + k * 3 + 2, none⟩ = some (.string x.fKind.fName) from e1 2 _ rfl)
    obtain ⟨da1, dl1, dc1, da2, dl2, dc2, o0, o1, o2, o3, tf, tm⟩ := HD.out.below hb
    obtain ⟨y, hy⟩ : ∃ y, y = fieldAt u.fFields x.fName := ⟨_, rfl⟩
    have CO : ∀ W, Below wr.heap.size wr W → Calls Tryz.prog 143 #[.agg #[.string u.fName, .string u.fSuper, .slice da1 dl1 dc1, .slice da2 dl2 dc2], .string x.fName] W fun e w' => e = .returned (.int .i64 y) ∧ Below W.heap.size W w' := fun W hW => by
     rw [hy]; exact I_fieldAt u _ _ x.fName W (tf.stays qar (Keeps.of_below hW)) (tm.stays qaq (Keeps.of_below hW))
    have HY := qhd hy
    have E0 := qhd e0
    clear e0 e1 hr hy tf tm
    have l0 := block_lt_of_cell o0
    go_wp2_with fail
    refine (CO _ (bbel)).mono ?_
    rintro _ w3 ⟨rfl, h3⟩
    have h3s := (h3).size; (try simp only [qsz] at h3s)
    have hE3 : Below wx.heap.size wx w3 := bbel
    clear q0 q1 q2 o0 o1 o2 o3 CO
    by_cases h : y < 0
    ·have h4 : ¬ 0 ≤ y := by omega
     go_wp2
     go_roundw
     case measure => simp [intOf]; omega
     case rel => exact ⟨k + 1, by omega, by go_num, EachTo.step HA.out E0.out (by unfold fieldFits; rw [← HY.out]; simpa using h), hE3⟩
    ·have h4 : 0 ≤ y := by omega
     have RV : Hid (z = false) := qhd (by rw [HZ.out]; exact pairFits_f (qan E0.out (by unfold fieldFits; rw [← HY.out]; simpa using h4)))
     go_wp2
     all_goals (try go_returns)
     all_goals exact HR.out _ _ ⟨by rw [RV.out]; rfl, HE.out.trans (hE3.mono hEs)⟩
   ·obtain rfl : k = cl1 := by omega
    have HFD : Hid (each (fun _ f => fieldFits u f) c.fFields = true) := qhd (qat HA.out hfl)
    clear HA
    obtain ⟨wq, hwq⟩ : ∃ x, x = wr := ⟨_, rfl⟩
    subst hwq
    obtain ⟨ca1, cl1, cc1, ca2, cl2, cc2, n0, n1, n2, n3, sf, sm⟩ := HB.out.below hb
    have hml := sm.len.1
    have hmc := sm.len.2
    have hmm : cl2 ≤ 9223372036854775807 := by unfold maxLen at hmc; omega
    have SM := qhd sm
    clear n0 n1 n2 sf sm
    go_wp2_with fail
    clear n3
    go_loopw [37] (fun zj ws => ∃ j : Nat, j ≤ cl2 ∧ zj = .int .i64 j ∧ EachTo (fun _ m => methodFits p xi yi u m) c.fMethods j = true ∧ Below wq.heap.size wq ws) (fun zj _ => cl2 - (intOf zj).toNat)
    case atStart => exact ⟨0, Nat.zero_le _, rfl, rfl, Below.refl _ _⟩
    case round =>
     obtain ⟨j, hj, rfl, ha2, hb2⟩ := hrel
     obtain ⟨ws, hws⟩ : ∃ x, x = wr := ⟨_, rfl⟩
     subst hws
     have HA2 := qhd ha2
     clear ha2
     have hbx2 := hb2.size
     have hbs := hb.trans (hb2.mono hbx)
     have hEW := HE.out.trans (hbs.mono hEs)
     by_cases hlt2 : j < cl2
     rotate_left
     ·obtain rfl : j = cl2 := by omega
      have RV : Hid (z = true) := qhd (by rw [HZ.out]; exact pairFits_ok (qat HA2.out hml) HFD.out)
      go_wp2
      all_goals (try go_returns)
      all_goals exact HR.out _ _ ⟨by rw [RV.out]; rfl, hEW⟩
     obtain ⟨a', len', cap', e', _, _, _, hsl⟩ := SM.out
     cases e'
     obtain ⟨b, off, rfl, _, hbl, hr⟩ := hsl (by omega)
     obtain ⟨m, cs, e0, _, e1, e4⟩ := hr j hlt2
     obtain ⟨x1, x2, x3, rfl, t1, t2, t3, bm1, bm2⟩ := e4
     obtain ⟨xa1, xl1, xc1, rfl⟩ := t1.form
     obtain ⟨xa2, xl2, xc2, rfl⟩ := t2.form
     obtain ⟨xa3, xl3, xc3, rfl⟩ := t3.form
     have q0 := qaa hb2 (show wq.cell? ⟨b, off + j * 8, none⟩ = some (.string m.fName) from e1 0 _ rfl)
     have q1 := qaa hb2 (show wq.cell? ⟨b, off + j * 8 + 1, none⟩ = some (.slice xa1 xl1 xc1) from e1 1 _ rfl)
     have q2 := qaa hb2 (show wq.cell? ⟨b, off + j * 8 + 2, none⟩ = some (.int .i64 m.fRet.fKind) from e1 2 _ rfl)
     have q3 := qaa hb2 (show wq.cell? ⟨b, off + j * 8 + 3, none⟩ = some (.string m.fRet.fName) from e1 3 _ rfl)
     have q4 := qaa hb2 (show wq.cell? ⟨b, off + j * 8 + 4, none⟩ = some (.int .i64 m.fLocals) from e1 4 _ rfl)
     have q5 := qaa hb2 (show wq.cell? ⟨b, off + j * 8 + 5, none⟩ = some (.int .i64 m.fStack) from e1 5 _ rfl)
     have q6 := qaa hb2 (show wq.cell? ⟨b, off + j * 8 + 6, none⟩ = some (.slice xa2 xl2 xc2) from e1 6 _ rfl)
     have q7 := qaa hb2 (show wq.cell? ⟨b, off + j * 8 + 7, none⟩ = some (.slice xa3 xl3 xc3) from e1 7 _ rfl)
     obtain ⟨da1, dl1, dc1, da2, dl2, dc2, o0, o1, o2, o3, tf, tm⟩ := HD.out.below hbs
     have l0 := block_lt_of_cell o0
     have dlm := tm.len.2
     have dlx : dl2 ≤ 9223372036854775807 := by unfold maxLen at dlm; omega
     have dll := tm.len.1
     obtain ⟨y, hy⟩ : ∃ y, y = methodAt u.fMethods m.fName := ⟨_, rfl⟩
     have CO : ∀ W, Below ws.heap.size ws W → Calls Tryz.prog 90 #[.agg #[.string u.fName, .string u.fSuper, .slice da1 dl1 dc1, .slice da2 dl2 dc2], .string m.fName] W fun e w' => e = .returned (.int .i64 y) ∧ Below W.heap.size W w' := fun W hW => by
      rw [hy]; exact I_methodAt u _ _ m.fName W (tf.stays qar (Keeps.of_below hW)) (tm.stays qaq (Keeps.of_below hW))
     have HY := qhd hy
     have E0 := qhd e0
     have T1 := qhd t1
     have TM := qhd tm
     clear e0 e1 hr hy tf tm t1 t2 t3
     go_wp2_with fail
     refine (CO _ (bbel)).mono ?_
     rintro _ w3 ⟨rfl, h3⟩
     have h3s := (h3).size; (try simp only [qsz] at h3s)
     obtain ⟨h3ed, h3eo, h3eg, h3ep, h3ex, h3ey⟩ := bf1 (n := ws.heap.size) h3
     clear h3eo h3ep
     have hW3 : Below ws.heap.size ws w3 := bbel
     have hW3s := hW3.size
     clear q0 q1 q2 q3 q4 q5 q6 q7 CO
     by_cases h : y < 0
     ·have STEP : Hid (methodFits p xi yi u m = true) := qhd (methodFits_none (by rw [← HY.out]; exact h))
      go_wp2
      go_roundw
      case measure => simp [intOf]; omega
      case rel => exact ⟨j + 1, by omega, by go_num, EachTo.step HA2.out E0.out STEP.out, hb2.trans (hW3.mono hbx2)⟩
     obtain ⟨n, rfl⟩ : ∃ n : Nat, y = (n : Int) := ⟨y.toNat, by omega⟩
     obtain ⟨x, hx⟩ := methodAt_row HY.out.symm
     have hnl : n < dl2 := by rw [← dll]; exact (List.getElem?_eq_some_iff.1 hx).1
     obtain ⟨a'', len'', cap'', e'', _, _, _, hsl2⟩ := TM.out
     cases e''
     obtain ⟨b3, off3, rfl, _, hbl3, hr3⟩ := hsl2 (by omega)
     obtain ⟨x', cs', g0, _, g1, g4⟩ := hr3 n hnl
     obtain rfl : x = x' := Option.some.inj (hx.symm.trans g0)
     obtain ⟨z1, z2, z3, rfl, s1, s2, s3, bx1, bx2⟩ := g4
     obtain ⟨za1, zl1, zc1, rfl⟩ := s1.form
     obtain ⟨za2, zl2, zc2, rfl⟩ := s2.form
     obtain ⟨za3, zl3, zc3, rfl⟩ := s3.form
     have r0 := qaa hW3 (show ws.cell? ⟨b3, off3 + n * 8, none⟩ = some (.string x.fName) from g1 0 _ rfl)
     have r1 := qaa hW3 (show ws.cell? ⟨b3, off3 + n * 8 + 1, none⟩ = some (.slice za1 zl1 zc1) from g1 1 _ rfl)
     have r2 := qaa hW3 (show ws.cell? ⟨b3, off3 + n * 8 + 2, none⟩ = some (.int .i64 x.fRet.fKind) from g1 2 _ rfl)
     have r3 := qaa hW3 (show ws.cell? ⟨b3, off3 + n * 8 + 3, none⟩ = some (.string x.fRet.fName) from g1 3 _ rfl)
     have r4 := qaa hW3 (show ws.cell? ⟨b3, off3 + n * 8 + 4, none⟩ = some (.int .i64 x.fLocals) from g1 4 _ rfl)
     have r5 := qaa hW3 (show ws.cell? ⟨b3, off3 + n * 8 + 5, none⟩ = some (.int .i64 x.fStack) from g1 5 _ rfl)
     have r6 := qaa hW3 (show ws.cell? ⟨b3, off3 + n * 8 + 6, none⟩ = some (.slice za2 zl2 zc2) from g1 6 _ rfl)
     have r7 := qaa hW3 (show ws.cell? ⟨b3, off3 + n * 8 + 7, none⟩ = some (.slice za3 zl3 zc3) from g1 7 _ rfl)
     have u3 := qaa hW3 o3
     have v0 := qaa hW3 (qaa hbs C0.out)
     have v1 := qaa hW3 (qaa hbs D0.out)
     obtain ⟨qr, hqr⟩ : ∃ q, q = kndEq m.fRet x.fRet := ⟨_, rfl⟩
     obtain ⟨qa, hqa⟩ : ∃ q, q = sameArgs m.fArgs x.fArgs := ⟨_, rfl⟩
     obtain ⟨qs, hqs⟩ : ∃ q, q = shapeP p xi yi m := ⟨_, rfl⟩
     have MF : Hid (methodFits p xi yi u m = (qr && qa && qs)) := qhd (by rw [methodFits_some HY.out.symm hx, hqr, hqa, hqs]; rfl)
     have bo : ∀ W, (binOp .neq 59 (.agg #[.int .i64 m.fRet.fKind, .string m.fRet.fName]) (.agg #[.int .i64 x.fRet.fKind, .string x.fRet.fName])).run Tryz.prog W = .ok (.bool !qr) W := fun W => by
      rw [hqr]
      simp only [run_neq_struct, eq_knd]
      try simp [Result.andThen, kndEq]
     have CEQ : ∀ W, Below ws.heap.size ws W → Calls Tryz.prog 132 #[.slice xa1 xl1 xc1, .slice za1 zl1 zc1] W fun e w' => e = .returned (.bool qa) ∧ Below W.heap.size W w' := fun W hW => by
      rw [hqa]; exact I_eqKnds _ _ _ _ W ((T1.out.stays qap (Keeps.of_below hb2)).stays qap (Keeps.of_below hW)) (s1.stays qap (Keeps.of_below hW))
     have AM : ∀ W, Below ws.heap.size ws W → Calls Tryz.prog 144 #[.pointer (some ⟨L, 0, none⟩), .int .i64 (xi : Int), .int .i64 (yi : Int), .agg #[.string m.fName, .slice xa1 xl1 xc1, .int .i64 m.fRet.fKind, .string m.fRet.fName, .int .i64 m.fLocals, .int .i64 m.fStack, .slice xa2 xl2 xc2, .slice xa3 xl3 xc3]] W fun e w' => e = .returned (.bool qs) ∧ Below W.heap.size W w' := fun W hW => by
      rw [hqs]; exact I_agreeMethod p L xi yi m _ _ _ _ _ _ _ W (LX.out.below (hbs.trans (hW.mono hbs.size))) HP.out hxi hyi ((T1.out.stays qap (Keeps.of_below hb2)).stays qap (Keeps.of_below hW)) bm2
     have hn0 : ¬ ((n : Int) < 0) := by omega
     have gk1 : (n : Int) < (dl2 : Int) := by omega
     have gk2 : (0 : Int) ≤ (n : Int) := by omega
     have lD := block_lt_of_cell u3
     have lC := block_lt_of_cell v0
     have lC2 := block_lt_of_cell v1
     clear g0 g1 hr3 hx hqr hqa hqs o0 o1 o2 o3 s1 s2 s3 h
     cases qr
     ·have STOP : Hid (methodFits p xi yi u m = false) := qhd (by rw [MF.out]; rfl)
      have RV : Hid (z = false) := qhd (by rw [HZ.out]; exact pairFits_m (qan E0.out STOP.out))
      go_wp2
      all_goals (try go_returns)
      all_goals exact HR.out _ _ ⟨by rw [RV.out]; rfl, bbel⟩
     go_wp2_with fail
     refine (CEQ _ (bbel)).mono ?_
     rintro _ w4 ⟨rfl, h4⟩
     have h4s := (h4).size; (try simp only [qsz] at h4s)
     obtain ⟨h4fd, h4fo, h4fg, h4fp, h4fx, h4fy⟩ := bf1 (n := ws.heap.size) h4
     clear h4fo h4fp
     have hW4 : Below ws.heap.size ws w4 := bbel
     replace v0 := qaa hW4 (qaa hbs C0.out)
     replace v1 := qaa hW4 (qaa hbs D0.out)
     cases qa
     ·have STOP : Hid (methodFits p xi yi u m = false) := qhd (by rw [MF.out]; rfl)
      have RV : Hid (z = false) := qhd (by rw [HZ.out]; exact pairFits_m (qan E0.out STOP.out))
      go_wp2
      all_goals (try go_returns)
      all_goals exact HR.out _ _ ⟨by rw [RV.out]; rfl, bbel⟩
     clear r0 r1 r2 r3 r4 r5 r6 r7 u3 bo CEQ
     go_wp2_with fail
     refine (AM _ (bbel)).mono ?_
     rintro _ w5 ⟨rfl, h5⟩
     have h5s := (h5).size; (try simp only [qsz] at h5s)
     have hW5 : Below ws.heap.size ws w5 := bbel
     clear AM
     cases qs
     ·have STOP : Hid (methodFits p xi yi u m = false) := qhd (by rw [MF.out]; rfl)
      have RV : Hid (z = false) := qhd (by rw [HZ.out]; exact pairFits_m (qan E0.out STOP.out))
      go_wp2
      all_goals (try go_returns)
      all_goals exact HR.out _ _ ⟨by rw [RV.out]; rfl, hEW.trans (hW5.mono hEW.size)⟩
     have STEP : Hid (methodFits p xi yi u m = true) := qhd (by rw [MF.out]; rfl)
     go_wp2
     go_roundw
     case measure => simp [intOf]; omega
     case rel => exact ⟨j + 1, by omega, by go_num, EachTo.step HA2.out E0.out STEP.out, hb2.trans (hW5.mono hbx2)⟩

def pairsAt (p : DLodPlan) (rs : List DLodRef) (k : Nat) (a : DLodRef) : Bool := each (fun _ b => pairOk p a b) (rs.drop (k + 1))
theorem each_cons {α : Type} (f : Nat → α → Bool) (x : α) (xs : List α) : each f (x :: xs) = (f 0 x && each (fun k => f (k + 1)) xs) := by
 rw [Bool.eq_iff_iff, Bool.and_eq_true, each_iff, each_iff]
 constructor
 ·intro h
  exact ⟨h 0 x rfl, fun k y hk => h (k + 1) y (by simpa using hk)⟩
 ·rintro ⟨h0, h1⟩ k y hk
  cases k with
  | zero => simp at hk; subst hk; exact h0
  | succ k => exact h1 k y (by simpa using hk)
theorem laidAt_pairs {p : DLodPlan} {rs : List DLodRef} {k : Nat} {a : DLodRef} (e : rs[k]? = some a) : laidAt p rs k a = pairsAt p rs k a := by
 unfold laidAt pairsAt
 obtain ⟨hk, rfl⟩ := List.getElem?_eq_some_iff.1 e
 rw [List.drop_eq_getElem_cons hk, each_cons]
 have h1 : overL p rs[k] 0 rs[k] = true := by simp [overL]
 rw [h1, Bool.true_and]
 congr 1

theorem I_chainLaid (p : DLodPlan) (L : Nat) (v : Value) (rs : List DLodRef) (w : World) (hl : Lodge w L p) (hp : lodOk p = true) (sc : Sl 2 rLodRef 0 w v rs) (ht : ∀ x ∈ rs, There p x) :
  Calls Tryz.prog 79 #[.pointer (some ⟨L, 0, none⟩), v] w fun e w' => e = .returned (.bool (laidL p rs)) ∧ Below w.heap.size w w' := by
 obtain ⟨a, len, cap, rfl, hln, h1, h2, h3⟩ := id sc
 have m1 : len ≤ 9223372036854775807 := by unfold maxLen at h2; omega
 have m2 : cap ≤ 9223372036854775807 := by unfold maxLen at h2; omega
 have HLN := qhd hln
 have HL := qhd hl
 have HP := qhd hp
 have HT := qhd ht
 have H3 := qhd h3
 have h1c := h1
 clear h2 hln hl hp ht h3
 obtain ⟨z, hz⟩ : ∃ z, z = laidL p rs := ⟨_, rfl⟩
 have HZ := qhd hz
 rw [← hz]
 clear hz
 refine qab fun R HR => ?_
 go_enter Tryz.func79, Tryz.ntmps79
 go_wp2_with fail
 go_loopw [11] (fun zi wr => ∃ k : Nat, k ≤ len ∧ zi = .int .i64 k ∧ EachTo (laidAt p rs) rs k = true ∧ Below w.heap.size w wr) (fun zi _ => len - (intOf zi).toNat)
 case atStart => exact ⟨0, Nat.zero_le _, rfl, rfl, bbel⟩
 case round =>
  obtain ⟨k, hk, rfl, ha, hb⟩ := hrel
  have HA := qhd ha
  clear ha
  have hbx := hb.size
  by_cases hlt : k < len
  rotate_left
  ·obtain rfl : k = len := by omega
   have RV : Hid (z = true) := qhd (by rw [HZ.out]; exact qat HA.out HLN.out)
   go_wp2
   all_goals (try go_returns)
   all_goals exact HR.out _ _ ⟨by rw [RV.out]; rfl, hb⟩
  obtain ⟨b, off, rfl, _, hbl, hr⟩ := H3.out (by omega)
  obtain ⟨⟨xk, xn⟩, cs, e0, _, e1, e4⟩ := hr k hlt
  obtain ⟨rfl, bx⟩ := e4
  have q1 : wr.cell? ⟨b, off + k * 2, none⟩ = some (.int .i64 xk) := qaa hb (show w.cell? ⟨b, off + k * 2, none⟩ = some (.int .i64 xk) from e1 0 _ rfl)
  have q2 : wr.cell? ⟨b, off + k * 2 + 1, none⟩ = some (.string xn) := qaa hb (show w.cell? ⟨b, off + k * 2 + 1, none⟩ = some (.string xn) from e1 1 _ rfl)
  have X := qhd e0
  have HRW := qhd hr
  have g1 : ((k : Int) + 1) ≤ (len : Int) := by omega
  have g2 : (0 : Int) ≤ (k : Int) + 1 := by omega
  have g3 : ((k : Int) + 1) ≤ (cap : Int) := by omega
  have g4 : (len : Int) ≤ (cap : Int) := by omega
  clear e0 e1 hr
  by_cases hcap : cap = k + 1
  ·obtain rfl : len = k + 1 := by omega
   subst hcap
   have PF : Hid (pairsAt p rs k ⟨xk, xn⟩ = true) := qhd (by
    unfold pairsAt
    rw [List.drop_of_length_le (by rw [HLN.out]; exact Nat.le_refl _)]; rfl)
   go_wp2_with fail
   obtain ⟨wx, hwx⟩ : ∃ x, x = wr.alloc (.cells #[.int .i64 xk, .string xn] 42) := ⟨_, rfl⟩
   have hEA : Below w.heap.size w wx := by rw [hwx]; exact bbel
   rw [← hwx]
   clear hwx q1 q2
   go_loopw [21] (fun zj ws => zj = .int .i64 0 ∧ Below wx.heap.size wx ws) (fun zj _ => 0)
   case atStart => exact ⟨rfl, Below.refl _ _⟩
   case round =>
    obtain ⟨rfl, hb2⟩ := hrel
    have HE2 := qhd (hEA.trans (hb2.mono hEA.size))
    have hf : ¬ ((0 : Int) < ((k + 1 - (k + 1) : Nat) : Int)) := by omega
    clear hb2 hEA
    go_wp2
    refine ⟨⟨_, _, _, _, _, ⟨k + 1, by omega, by go_num, EachTo.step HA.out X.out ((laidAt_pairs X.out).trans PF.out), HE2.out⟩, rfl, rfl, rfl, rfl, rfl⟩, by first | (simp [intOf]; done) | (simp [intOf]; omega)⟩
  go_wp2_with fail
  have hEA : Below w.heap.size w (wr.alloc (.cells #[.int .i64 xk, .string xn] 42)) := bbel
  obtain ⟨wx, hwx⟩ : ∃ x, x = wr.alloc (.cells #[.int .i64 xk, .string xn] 42) := ⟨_, rfl⟩
  have x0 : wx.cell? ⟨wr.heap.size, 0, none⟩ = some (.int .i64 xk) := by rw [hwx]; go_simp
  have x1 : wx.cell? ⟨wr.heap.size, 1, none⟩ = some (.string xn) := by rw [hwx]; go_simp
  rw [← hwx] at hEA ⊢
  clear hwx q1 q2
  have hEs := hEA.size
  have TX := qhd (HT.out _ (List.mem_of_getElem? X.out))
  obtain ⟨n, hn⟩ : ∃ n, n = len - (k + 1) := ⟨_, rfl⟩
  rw [← hn]
  have HN := qhd hn
  have hn63 : n ≤ 9223372036854775807 := by omega
  have X0 := qhd x0
  have X1 := qhd x1
  clear hn x0 x1
  go_loopw [21] (fun zj ws => ∃ j : Nat, j ≤ n ∧ zj = .int .i64 j ∧ EachTo (fun _ b => pairOk p ⟨xk, xn⟩ b) (rs.drop (k + 1)) j = true ∧ Below wx.heap.size wx ws) (fun zj _ => n - (intOf zj).toNat)
  case atStart => exact ⟨0, Nat.zero_le _, rfl, rfl, Below.refl _ _⟩
  case round =>
   obtain ⟨j, hj, rfl, ha2, hb2⟩ := hrel
   obtain ⟨ws, hws⟩ : ∃ x, x = wr := ⟨_, rfl⟩
   subst hws
   have HA2 := qhd ha2
   clear ha2
   have hE2 := hEA.trans (hb2.mono hEs)
   have hE2s := hE2.size
   have x0 := qaa hb2 X0.out
   have x1 := qaa hb2 X1.out
   have lx := block_lt_of_cell x0
   by_cases hlt2 : j < n
   rotate_left
   ·obtain rfl : j = n := by omega
    have PF : Hid (pairsAt p rs k ⟨xk, xn⟩ = true) := qhd (by
     unfold pairsAt
     exact qat HA2.out (by rw [List.length_drop, HLN.out, HN.out]))
    go_wp2
    go_roundw
    case measure => simp [intOf]; omega
    case rel => exact ⟨k + 1, by omega, by go_num, EachTo.step HA.out X.out ((laidAt_pairs X.out).trans PF.out), hE2⟩
   have hkj : k + 1 + j < len := by have := HN.out; omega
   obtain ⟨⟨yk, yn⟩, cs', f0, _, f1, f4⟩ := HRW.out (k + 1 + j) hkj
   obtain ⟨rfl, by0⟩ := f4
   have r1 : ws.cell? ⟨b, off + (k + 1) * 2 + j * 2, none⟩ = some (.int .i64 yk) := qaa hE2 (by
    have h5 : w.cell? ⟨b, off + (k + 1 + j) * 2 + 0, none⟩ = some (.int .i64 yk) := f1 0 _ rfl
    rw [Nat.add_mul, ← Nat.add_assoc] at h5; exact h5)
   have r2 : ws.cell? ⟨b, off + (k + 1) * 2 + j * 2 + 1, none⟩ = some (.string yn) := qaa hE2 (by
    have h5 : w.cell? ⟨b, off + (k + 1 + j) * 2 + 1, none⟩ = some (.string yn) := f1 1 _ rfl
    rw [Nat.add_mul, ← Nat.add_assoc] at h5; exact h5)
   have Y : Hid ((rs.drop (k + 1))[j]? = some ⟨yk, yn⟩) := qhd (by rw [List.getElem?_drop]; exact f0)
   obtain ⟨q, hq⟩ : ∃ q, q = pairOk p ⟨xk, xn⟩ ⟨yk, yn⟩ := ⟨_, rfl⟩
   have PL : ∀ W, Below ws.heap.size ws W → Calls Tryz.prog 113 #[.pointer (some ⟨L, 0, none⟩), .agg #[.int .i64 xk, .string xn], .agg #[.int .i64 yk, .string yn]] W fun e w' => e = .returned (.bool q) ∧ Below W.heap.size W w' := fun W hW => by
    rw [hq]; exact I_pairLaid p L ⟨xk, xn⟩ ⟨yk, yn⟩ W (HL.out.below (hE2.trans (hW.mono hE2s))) HP.out TX.out (HT.out _ (List.mem_of_getElem? f0))
   have HQ := qhd hq
   clear f0 f1 hq
   go_wp2_with fail
   refine (PL _ (bbel)).mono ?_
   rintro _ w5 ⟨rfl, h5⟩
   have h5s := (h5).size; (try simp only [qsz] at h5s)
   have hW5 : Below ws.heap.size ws w5 := bbel
   clear PL r1 r2
   cases q
   ·have RV : Hid (z = false) := qhd (by
     rw [HZ.out]
     refine qan X.out ?_
     rw [laidAt_pairs X.out]
     exact qan Y.out HQ.out.symm)
    go_wp2
    all_goals (try go_returns)
    all_goals exact HR.out _ _ ⟨by rw [RV.out]; rfl, hE2.trans (hW5.mono hE2s)⟩
   go_wp2
   go_roundw
   case measure => simp [intOf]; omega
   case rel => exact ⟨j + 1, by omega, by go_num, EachTo.step HA2.out Y.out HQ.out.symm, hb2.trans (hW5.mono hb2.size)⟩


def FrameL (L : Nat) (w w' : World) : Prop := w.heap.size ≤ w'.heap.size ∧ ∀ bl, w.cell? ⟨L, 3, none⟩ = some (.map (some bl)) → ∀ b, b < w.heap.size → b ≠ bl → w'.heap[b]? = w.heap[b]?
theorem I_canLay (p : DLodPlan) (L : Nat) (r : DLodRef) (w0 w : World) (hl : LodgeF w0 w L p) (hp : lodOk p = true) (hn : r.fName.size ≤ maxLen) (hk : (Lit.int .i64 r.fKeeper).wf = true) :
  Calls Tryz.prog 44 #[.pointer (some ⟨L, 0, none⟩), .agg #[.int .i64 r.fKeeper, .string r.fName]] w fun e w' => e = .returned (.bool (lnkLaid p r)) ∧ Below w0.heap.size w0 w' ∧ Lodge w' L p ∧ FrameL L w w' := by
 obtain ⟨a, len, cap, bo, ba, bl, n, c0, c1, c2, c3, s, m1, m2, m3, hn1, hw, hb1, hb2, hb3, hb4, hb5⟩ := id hl
 have HL := qhd hl.lodge
 have HP := qhd hp
 have M3 := qhd m3
 have HW := qhd hw
 have hLl := block_lt_of_cell c0
 have HSTO : Hid (∀ (W wS : World) g, Below w.heap.size w W → W.drew.grownBy wS (some bl) → MapF wS bl (n + 1) g → Lodge wS L p ∧ FrameL L w wS) := qhd fun W wS g hW hgr hmp => by
  have hk : ∀ b, b < w.heap.size → b ≠ bl → wS.heap[b]? = w.heap[b]? := fun b hb hne => (hgr.block b (by show b < W.heap.size; have := hW.size; omega) (fun e => hne (by cases e; rfl))).trans (hW.block b hb)
  have hE : Below w0.heap.size w0 wS := (hw.trans (hW.mono hw.size)).drew.grown hgr (by show _ ≤ W.heap.size; exact (hw.trans (hW.mono hw.size)).size) (fun k h => by cases h; exact hb1)
  refine ⟨?_, Nat.le_trans hW.size hgr.size, fun bl' hbl' b hb hne => hk b hb (fun e => hne (by rw [c3] at hbl'; cases hbl'; exact e))⟩
  exact ⟨a, len, cap, bo, ba, bl, n + 1, (qae (hk L hLl hb4)).trans c0, (qae (hk L hLl hb4)).trans c1, (qae (hk L hLl hb4)).trans c2, (qae (hk L hLl hb4)).trans c3, s.stays rLodKeeper_good (Keeps.of_below hE), (m1.kept (hk bo m1.lt hb2)).mono (by omega), (m2.kept (hk ba m2.lt hb3)).mono (by omega), ⟨_, hmp⟩, by omega⟩
 obtain ⟨rk, rn⟩ := r
 dsimp only at hn hk ⊢
 have KF : Hid (KeyFit rk rn) := qhd ⟨hk, hn⟩
 clear c0 c1 c2 m1 m2 m3 hl hp s hw hk
 obtain ⟨z, hz⟩ : ∃ z, z = lnkLaid p ⟨rk, rn⟩ := ⟨_, rfl⟩
 have HZ := qhd hz
 rw [← hz]
 clear hz
 refine qab fun R HR => ?_
 go_enter Tryz.func44, Tryz.ntmps44
 go_wp2_with fail
 obtain ⟨wK, hwK⟩ : ∃ x, x = w.alloc (.cells #[.int .i64 rk, .string rn] 42) := ⟨_, rfl⟩
 have r0 : wK.cell? ⟨w.heap.size, 0, none⟩ = some (.int .i64 rk) := by rw [hwK]; go_simp
 have r1 : wK.cell? ⟨w.heap.size, 1, none⟩ = some (.string rn) := by rw [hwK]; go_simp
 have hEK : Below w.heap.size w wK := by rw [hwK]; exact bbel
 rw [← hwK]
 clear hwK
 have k3 := qaa hEK c3
 have N3 := In.cell k3
 have N0 := In.cell r0
 have N1 := In.cell r1
 have K3 := qhd k3
 have R0 := qhd r0
 have R1 := qhd r1
 have LK : ∀ y : In wK, (Instr.lookup 132 (.map (some bl)) (.agg #[.int .i64 rk, .string rn]) false).run Tryz.prog y.x = .ok (.int .i64 0) y.x := fun y => by
  have := ((M3.out.below hEK).below y.h).look KF.out
  simpa using this
 clear r0 r1 c3 k3
 refine qaj (by kernel_rfl) (by kernel_rfl) ?_
 repeat (go_big_quiet_step (first | fail))
 refine wpQuiet_nil ?_
 rintro wZ ⟨⟨w1, hw1⟩, hq⟩
 obtain rfl : w1 = wZ := hq.symm
 clear hq
 have hw1s := hw1.size
 (try dsimp only)
 clear N3 N0 N1 LK
 have hE1 := hEK.trans (hw1.mono hEK.size)
 have hE1s := hE1.size
 have r0 := qaa hw1 R0.out
 have r1 := qaa hw1 R1.out
 go_wp2_with fail
 refine (I_chain p L ⟨rk, rn⟩ w1 (HL.out.below hE1) HP.out hn).mono ?_
 rintro _ wA ⟨⟨v, rfl, hR⟩, hA⟩
 have hEA := hE1.trans (hA.mono hE1s)
 replace r0 := qaa hA r0
 replace r1 := qaa hA r1
 have k3 := qaa hA (qaa hw1 K3.out)
 obtain ⟨va, vc, rfl⟩ := hR.form0
 have HRR := qhd hR
 obtain ⟨q, hnl⟩ : ∃ q, q = (lodChain p ⟨rk, rn⟩).length := ⟨_, rfl⟩
 rw [← hnl]
 have HN := qhd hnl
 clear hR hnl
 by_cases h0 : q = 0
 ·have RV : Hid (z = false) := qhd (by
   rw [HZ.out]; unfold lnkLaid
   rw [List.eq_nil_of_length_eq_zero (HN.out.symm.trans h0)]; rfl)
  subst h0
  go_wp2_with fail
  go_still_tail 5, (by kernel_rfl)
  refine wpList_storeF rfl _ _ _ rfl (b := bl) (n := n) (k := rk) (s := rn) (i := 2) rfl rfl rfl ((M3.out.below (hEA)).kept rfl) KF.out (by decide) (by unfold maxLen; omega) ?_
  intro wS hmS hgS
  have hzS := hgS.size
  have hES : Below w0.heap.size w0 wS := (HW.out.trans ((hEA).mono HW.out.size)).drew.grown hgS (by show _ ≤ (wA).heap.size; exact (HW.out.trans ((hEA).mono HW.out.size)).size) (fun k h => by cases h; exact hb1)
  go_wp2
  (all_goals (try go_returns))
  (all_goals exact HR.out _ _ ⟨by first | (rw [RV.out]; done) | (rw [RV.out]; rfl), hES, HSTO.out _ _ _ (hEA) hgS hmS⟩)
 have hne : lodChain p ⟨rk, rn⟩ ≠ [] := fun e => h0 (by rw [HN.out, e]; rfl)
 obtain ⟨h1, h2, h3⟩ := lodChain_some hn hne
 have HAL := qhd (chainF_there HP.out 6 _ _ h2 h3)
 have LN : Hid (lnkLaid p ⟨rk, rn⟩ = laidL p (lodChain p ⟨rk, rn⟩)) := qhd (by
  unfold lnkLaid
  cases e : lodChain p ⟨rk, rn⟩ with
  | nil => exact absurd e hne
  | cons _ _ => rfl)
 have SL := qhd (HRR.out.sl fun x hx => by obtain ⟨_, _, _, _, h⟩ := HAL.out x hx; exact h)
 rw [← HN.out] at SL
 have hq0 : 0 < q := by omega
 have hqq : ¬ (q : Int) = 0 := by omega
 obtain ⟨x, hx⟩ : ∃ x, x = laidL p (lodChain p ⟨rk, rn⟩) := ⟨_, rfl⟩
 have CL : ∀ W, Below wA.heap.size wA W → Calls Tryz.prog 79 #[.pointer (some ⟨L, 0, none⟩), .slice va q vc] W fun e w' => e = .returned (.bool x) ∧ Below W.heap.size W w' := fun W hW => by
  rw [hx]; exact I_chainLaid p L _ _ W (HL.out.below (hEA.trans (hW.mono hEA.size))) HP.out (SL.out.stays rLodRef_good (Keeps.of_below hW)) HAL.out
 have HX := qhd hx
 clear h0 hne h1 h2 h3 hx
 go_wp2_with fail
 refine (CL _ (bbel)).mono ?_
 rintro _ wC ⟨rfl, hC⟩
 have hEC := hEA.trans (hC.mono hEA.size)
 replace r0 := qaa hC r0
 replace r1 := qaa hC r1
 replace k3 := qaa hC k3
 have RV : Hid (z = x) := qhd (by rw [HZ.out, LN.out, HX.out])
 clear CL
 cases x
 ·go_wp2_with fail
  go_still_tail 5, (by kernel_rfl)
  refine wpList_storeF rfl _ _ _ rfl (b := bl) (n := n) (k := rk) (s := rn) (i := 2) rfl rfl rfl ((M3.out.below (hEC)).kept rfl) KF.out (by decide) (by unfold maxLen; omega) ?_
  intro wS hmS hgS
  have hzS := hgS.size
  have hES : Below w0.heap.size w0 wS := (HW.out.trans ((hEC).mono HW.out.size)).drew.grown hgS (by show _ ≤ (wC).heap.size; exact (HW.out.trans ((hEC).mono HW.out.size)).size) (fun k h => by cases h; exact hb1)
  go_wp2
  (all_goals (try go_returns))
  (all_goals exact HR.out _ _ ⟨by first | (rw [RV.out]; done) | (rw [RV.out]; rfl), hES, HSTO.out _ _ _ (hEC) hgS hmS⟩)
 ·go_wp2_with fail
  go_still_tail 5, (by kernel_rfl)
  refine wpList_storeF rfl _ _ _ rfl (b := bl) (n := n) (k := rk) (s := rn) (i := 1) rfl rfl rfl ((M3.out.below (hEC)).kept rfl) KF.out (by decide) (by unfold maxLen; omega) ?_
  intro wS hmS hgS
  have hzS := hgS.size
  have hES : Below w0.heap.size w0 wS := (HW.out.trans ((hEC).mono HW.out.size)).drew.grown hgS (by show _ ≤ (wC).heap.size; exact (HW.out.trans ((hEC).mono HW.out.size)).size) (fun k h => by cases h; exact hb1)
  go_wp2
  (all_goals (try go_returns))
  (all_goals exact HR.out _ _ ⟨by first | (rw [RV.out]; done) | (rw [RV.out]; rfl), hES, HSTO.out _ _ _ (hEC) hgS hmS⟩)

theorem I_LnkLaid (x : DLodPlan) (v1 : Value) (r : DLodRef) (w : World) (s1 : Sl 2 rLodKeeper 0 w v1 x.fKeepers) (hn : r.fName.size ≤ maxLen) (hk : (Lit.int .i64 r.fKeeper).wf = true) :
  Calls Tryz.prog 17 #[.agg #[v1], .agg #[.int .i64 r.fKeeper, .string r.fName]] w fun e w' => e = .returned (.bool (lnkLaid x r)) ∧ Below w.heap.size w w' := by
 obtain ⟨a, len, cap, rfl⟩ := s1.form
 have HS := qhd s1
 clear s1
 obtain ⟨z, hz⟩ : ∃ z, z = lnkLaid x r := ⟨_, rfl⟩
 have HZ := qhd hz
 rw [← hz]
 clear hz
 have HK := qhd hk
 clear hk
 refine qab fun R HR => ?_
 go_enter Tryz.func17, Tryz.ntmps17
 go_wp2_with fail
 have hEw : Below w.heap.size w ((w.alloc (.cells #[.slice a len cap] 25)).alloc (.cells #[.int .i64 r.fKeeper, .string r.fName] 42)) := bbel
 refine (I_newLodgeF x _ _ (HS.out.stays rLodKeeper_good (Keeps.of_below hEw))).mono ?_
 rintro _ wA ⟨hA, hq⟩
 have hEA : Below w.heap.size w wA := bbel
 have hAs := (hA).size; (try simp only [qsz] at hAs)
 obtain ⟨hAad, hAao, hAag, hAap, hAax, hAay, hAac1, hAaf1, hAaz1⟩ := bf2 (n := w.heap.size) hA
 rcases hq with ⟨hp, rfl⟩ | ⟨hp, L, rfl, hL⟩
 ·have RV : Hid (z = false) := qhd (by
   rw [HZ.out]
   cases e : lnkLaid x r with
   | false => rfl
   | true =>
     unfold lnkLaid at e
     have hne : lodChain x r ≠ [] := fun h => by rw [h] at e; simp at e
     have := (lodChain_some hn hne).1
     rw [hp] at this; cases this)
  clear hp
  go_wp2
  all_goals (try go_returns)
  all_goals exact HR.out _ _ ⟨by rw [RV.out]; rfl, hEA⟩
 have HP := qhd hp
 clear hp
 go_wp2_with fail
 refine (I_canLay x L r _ wA hL HP.out hn HK.out).mono ?_
 rintro _ wC ⟨rfl, hC, _⟩
 have hEC : Below w.heap.size w wC := hEw.trans (hC.mono (by simp; omega))
 go_wp2
 all_goals (try go_returns)
 all_goals exact HR.out _ _ ⟨by rw [HZ.out]; rfl, hEC⟩

end Go.Proofs.YtmbfpbgkchncgaaGreat
