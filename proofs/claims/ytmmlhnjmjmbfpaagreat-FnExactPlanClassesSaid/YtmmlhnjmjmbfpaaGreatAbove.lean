

/-
  The walk of the iterator over a class and those above it. Condition: a lodge of keepers that are ok, and a class that is there.
-/
import Derived.Test.YtmmlhnjmjmbfpaaGreatFindI
import Derived.Test.YtmmlhnjmjmbfpaaGreatFindT
import Derived.Test.YtmmlhnjmjmbfpaaGreatSeq
import Derived.RangeFuncLeaves
import Derived.RangeFuncCalls
import Derived.OwnWalkIn
import Derived.TacticsInMore
import Derived.Sort.LoopGhostIn
namespace Go.Proofs.YtmmlhnjmjmbfpaaGreat
set_option linter.unusedSimpArgs false
set_option linter.unusedVariables false
open Go.RowKit

attribute [local go_sem] Oper.semAt_some

def encB (x : DLodRef × Bool) : Array Value := #[.agg #[.int .i64 x.1.fKeeper, .string x.1.fName], .bool x.2]
def tt (rs : List DLodRef) : List (DLodRef × Bool) := rs.map fun y => (y, true)
theorem tt_snoc (rs : List DLodRef) (y : DLodRef) : tt (rs ++ [y]) = tt rs ++ [(y, true)] := by simp [tt]
/-- on the way up: rs is behind, y is next -/
def PT (p : DLodPlan) (r : DLodRef) (rs : List DLodRef) (y : DLodRef) : Prop := rs.length ≤ 6 ∧ There p y ∧ chainR p r = (chainF p (6 - rs.length) y).map (rs ++ ·)
def GivesAt (p : DLodPlan) (r : DLodRef) (s : List (DLodRef × Bool)) (x : DLodRef × Bool) : Prop := ∃ rs, s = tt rs ∧ ((∃ y, x = (y, true) ∧ PT p r rs y) ∨ (x = (noRef, false) ∧ chainR p r = none))
def AllAt (p : DLodPlan) (r : DLodRef) (s : List (DLodRef × Bool)) : Prop := (∃ rs, s = tt rs ∧ chainR p r = some rs) ∨ ∃ rs, s = tt rs ++ [(noRef, false)]
def KpA (n0 rb lb : Nat) (W W' : World) : Prop := n0 ≤ W.heap.size → rb < W.heap.size → lb < W.heap.size → Below n0 W W' ∧ W'.heap[rb]? = W.heap[rb]? ∧ W'.heap[lb]? = W.heap[lb]?
theorem kpA_t {n0 rb lb : Nat} {A B C : World} (h : KpA n0 rb lb A B) (k : KpA n0 rb lb B C) : KpA n0 rb lb A C := by
  intro h1 h2 h3
  obtain ⟨b, r, l⟩ := h h1 h2 h3
  have := b.size
  obtain ⟨b', r', l'⟩ := k (by omega) (by omega) (by omega)
  exact ⟨b.trans b', r'.trans r, l'.trans l⟩
theorem kpA_w (n0 rb lb : Nat) (W W' : World) (h : Below W.heap.size W W') : KpA n0 rb lb W W' := fun h1 h2 h3 => ⟨h.mono h1, h.block _ h2, h.block _ h3⟩

set_option maxRecDepth 100000 in
set_option maxHeartbeats 8000000 in
theorem I_above_gives (p : DLodPlan) (L : Nat) (r : DLodRef) (w0 w : World) (hl : Lodge w0 L p) (hp : lodOk p = true) (ht : There p r) (hb : Below w0.heap.size w0 w) (rb lb m : Nat) (hrb : w0.heap.size ≤ rb) (hlb : w0.heap.size ≤ lb) (hne : rb ≠ lb)
    (crb : w.heap[rb]? = some (.cells #[.int .i64 r.fKeeper, .string r.fName] 35 (0, 0))) (clb : w.heap[lb]? = some (.cells #[.pointer (some ⟨L, 0, none⟩)] 50 (0, 0))) :
    Gives Tryz.prog 69 #[.pointer (some ⟨rb, 0, none⟩), .pointer (some ⟨lb, 0, none⟩)] encB (KpA w0.heap.size rb lb) (GivesAt p r) (AllAt p r) rb 6 m w := by
  intro l J Jx W hbW hJb hJc hJn hY h0
  refine callsIn_of_wp Tryz.func69 rfl trivial ?_ rfl
  simp only [Tryz.ntmps69, List.size_toArray, List.length_cons, List.length_nil, Nat.reduceAdd, Nat.reduceSub, Array.replicate_succ, Array.replicate_zero, List.push_toArray, List.append_toArray, List.nil_append, List.cons_append]
  have hrl : rb < w.heap.size := (Array.getElem?_eq_some_iff.1 crb).1
  have hll : lb < w.heap.size := (Array.getElem?_eq_some_iff.1 clb).1
  have CRB : Hid (W.heap[rb]? = some (.cells #[.int .i64 r.fKeeper, .string r.fName] 35 (0, 0))) := Lib.hid ((hbW.block rb hrl).trans crb)
  have CLB : Hid (W.heap[lb]? = some (.cells #[.pointer (some ⟨L, 0, none⟩)] 50 (0, 0))) := Lib.hid ((hbW.block lb hll).trans clb)
  have hbW0 : Below w0.heap.size w0 W := hb.trans (hbW.mono hb.size)
  have HL := Lib.hid hl
  have HP := Lib.hid hp
  have HT := Lib.hid ht
  have H0 := Lib.hid h0
  have HY := Lib.hid hY
  have HJB := Lib.hid hJb
  have HJC := Lib.hid hJc
  have HJN := Lib.hid hJn
  clear crb clb hl hp ht h0 hY hJb hJc hJn hb
  gi_wp2
  gi_loopg [] 7 (fun gk wr => ∃ (rs : List DLodRef) (y : DLodRef), gk = 7 - rs.length ∧ PT p r rs y ∧ J (tt rs) wr ∧ Below w0.heap.size w0 wr ∧ wr.heap[rb]? = some (.cells #[.int .i64 y.fKeeper, .string y.fName] 35 (0, 0)) ∧ wr.heap[lb]? = some (.cells #[.pointer (some ⟨L, 0, none⟩)] 50 (0, 0)))
  case atStart => exact ⟨[], r, rfl, ⟨by simp, HT.out, by simp [chainR]⟩, H0.out, hbW0, CRB.out, CLB.out⟩
  case round =>
    clear CRB CLB H0 hbW hbW0
    obtain ⟨rs, ⟨yk, yn⟩, hgk, hpt, hj, hb, crb, clb⟩ := hrel
    obtain ⟨hlen, hthere, hch⟩ := id hpt
    obtain ⟨j, hj1, hj2, hj3, hj4⟩ := id hthere
    simp only at hj1 hj2 hj3 hj4
    subst hj1
    obtain ⟨b0, b1, bf0, bf1⟩ := two_cells crb
    have c0 : wr.cell? ⟨lb, 0, none⟩ = some (.pointer (some ⟨L, 0, none⟩)) := by simp [World.cell?, clb]
    obtain ⟨fn, tmps, assign, body, hy, hR⟩ := HY.out (tt rs) (⟨(j : Int), yn⟩, true) wr hj ⟨rs, rfl, Or.inl ⟨_, rfl, hpt⟩⟩
    have HGK := Lib.hid hgk
    have HCH := Lib.hid hch
    have CRB := Lib.hid crb
    have CLB := Lib.hid clb
    have HTH := Lib.hid hthere
    clear hpt hgk hch crb clb hthere hj
    unfold encB at hy
    dsimp only at hy
    gi_wp2
    refine hR.mono ?_
    rintro e W3 (⟨rfl, hJ3, hk⟩ | ⟨rfl, hJx3⟩)
    · obtain ⟨hk3, hk3r, hk3l⟩ := hk hb.size (Array.getElem?_eq_some_iff.1 CRB.out).1 (Array.getElem?_eq_some_iff.1 CLB.out).1
      clear hk
      have hb3 : Below w0.heap.size w0 W3 := hb.trans hk3
      have hb3s := hb3.size
      have crb3 : W3.heap[rb]? = some (.cells #[.int .i64 (j : Int), .string yn] 35 (0, 0)) := hk3r.trans CRB.out
      have clb3 : W3.heap[lb]? = some (.cells #[.pointer (some ⟨L, 0, none⟩)] 50 (0, 0)) := hk3l.trans CLB.out
      obtain ⟨d0, d1, df0, df1⟩ := two_cells crb3
      have e0 : W3.cell? ⟨lb, 0, none⟩ = some (.pointer (some ⟨L, 0, none⟩)) := by simp [World.cell?, clb3]
      have hN : rs.length + 1 ≤ 6 := by have := HJN.out _ _ hJ3; simpa [tt] using this
      obtain ⟨c, hc⟩ := HTH.out.cls
      have HC := Lib.hid hc
      have J3 := Lib.hid hJ3
      have CRB3 := Lib.hid crb3
      have CLB3 := Lib.hid clb3
      clear hk3 hk3r hk3l crb3 clb3 b0 b1 bf0 bf1 c0 hc hJ3 CRB CLB hb
      gi_wp2_with (refine ⟨trivial, ?_⟩; gi_at_call 70; refine (callsIn_wide.2 (I_class p L ⟨(j : Int), yn⟩ c W3 (HL.out.below hb3) HC.out hj4 HP.out)).mono ?_; rintro _ wA ⟨⟨v, rfl, a1, l1, c1, a2, l2, c2, rfl, d1', d2', by1, by2⟩, hA⟩)
      have hEA := hb3.trans (hA.mono hb3s)
      have hEAs := hEA.size
      have CRBA : Hid (wA.heap[rb]? = some (.cells #[.int .i64 (j : Int), .string yn] 35 (0, 0))) := Lib.hid ((hA.block rb (Array.getElem?_eq_some_iff.1 CRB3.out).1).trans CRB3.out)
      have CLBA : Hid (wA.heap[lb]? = some (.cells #[.pointer (some ⟨L, 0, none⟩)] 50 (0, 0))) := Lib.hid ((hA.block lb (Array.getElem?_eq_some_iff.1 CLB3.out).1).trans CLB3.out)
      have JA : Hid (J (tt (rs ++ [⟨(j : Int), yn⟩])) wA) := Lib.hid (by rw [tt_snoc]; exact HJB.out _ _ _ J3.out hA)
      replace d0 := keep_cell hA d0
      replace d1 := keep_cell hA d1
      replace e0 := keep_cell hA e0
      clear J3 CRB3 CLB3 df0 df1
      have hfld : ∀ W, (Instr.field 69 (.agg #[.string c.fName, .string c.fSuper, .slice a1 l1 c1, .slice a2 l2 c2]) 1).run Tryz.prog W = .ok (.string c.fSuper) W := fun _ => by kernel_rfl
      obtain ⟨qe, hqe⟩ : ∃ qe, qe = c.fSuper.toList.isEmpty := ⟨_, rfl⟩
      cases qe
      · have HQ : Hid (c.fSuper.toList.isEmpty = false) := Lib.hid hqe.symm
        have q2 : ¬ c.fSuper.toList = [] := by simpa using hqe.symm
        have q3 : c.fSuper.toList.isEmpty = false := hqe.symm
        clear hqe
        have KC : ∀ wC, Below wA.heap.size wA wC → wC.heap[rb]? = some (.cells #[.int .i64 (j : Int), .string yn] 35 (0, 0)) ∧ wC.heap[lb]? = some (.cells #[.pointer (some ⟨L, 0, none⟩)] 50 (0, 0)) ∧ J (tt (rs ++ [⟨(j : Int), yn⟩])) wC := fun wC hC =>
          ⟨(hC.block rb (Array.getElem?_eq_some_iff.1 CRBA.out).1).trans CRBA.out, (hC.block lb (Array.getElem?_eq_some_iff.1 CLBA.out).1).trans CLBA.out, HJB.out _ _ _ JA.out hC⟩
        rcases whoseR_code p j c.fSuper with hcd | ⟨hcd, hno⟩
        · obtain ⟨j', he, hj'1, hj'2⟩ := whoseR_there HP.out hj2 hcd
          have UP : Hid (chainR p r = (chainF p (6 - (rs.length + 1)) ⟨(j' : Int), c.fSuper⟩).map ((rs ++ [⟨(j : Int), yn⟩]) ++ ·)) := Lib.hid (by
            have h5 := HCH.out
            rw [show 6 - rs.length = (6 - (rs.length + 1)) + 1 by omega] at h5
            have h6 := chain_up h5 HC.out HQ.out (by simpa using hcd)
            simp only [Int.toNat_natCast] at h6
            rw [he] at h6
            exact h6)
          have SW : ∀ W, Below w0.heap.size w0 W → Calls Tryz.prog 54 #[.pointer (some ⟨L, 0, none⟩), .int .i64 (j : Int), .string c.fSuper] W fun e w' => e = .returned (.tuple #[.agg #[.int .i64 (j' : Int), .string c.fSuper], .int .i64 1]) ∧ Below W.heap.size W w' := fun W hW => by
            have h := I_resolve p L j c.fSuper W (HL.out.below hW) HP.out hj2 by2
            rw [he] at h
            exact h
          clear hcd he
          simp only [hfld, Result.andThen]
          gi_wp2_with (refine ⟨trivial, ?_⟩; gi_at_call 54; refine (callsIn_wide.2 (SW wA hEA)).mono ?_; rintro _ wC ⟨rfl, hC⟩; obtain ⟨crbC, clbC, hJC⟩ := KC wC hC; have CRBC := Lib.hid crbC; have CLBC := Lib.hid clbC; have JC := Lib.hid hJC; have hrC := (Array.getElem?_eq_some_iff.1 crbC).1; have hlC := (Array.getElem?_eq_some_iff.1 clbC).1; have hEC := hEA.trans (hC.mono hEAs); have hECs := hEC.size; clear d0 d1 e0; obtain ⟨d0, d1, df0, df1⟩ := two_cells crbC; clear crbC clbC hJC)
          gi_roundg (7 - (rs.length + 1))
          case measure => have := HGK.out; omega
          case rel =>
            refine ⟨rs ++ [⟨(j : Int), yn⟩], ⟨(j' : Int), c.fSuper⟩, by simp, ⟨by simp; omega, ⟨j', rfl, hj'1, hj'2, by2⟩, by simpa using UP.out⟩, ?_, ?_, ?_, ?_⟩
            · exact HJB.out _ _ _ (HJC.out _ _ _ _ (HJC.out _ _ _ _ JC.out)) ((Below.refl _ _).alloc (Nat.le_refl _) _)
            · exact (((hEC.setCell (by show _ ≤ rb; omega) _).setCell (by show _ ≤ rb; omega) _)).alloc (by simp; omega) _
            · have h := heap_setCell_at (i := 1) (v := .string c.fSuper) (heap_setCell_at (i := 0) (v := .int .i64 (j' : Int)) CRBC.out)
              rw [Below.heap_alloc _ _ _ (by simpa using hrC)]
              simpa using h
            · rw [Below.heap_alloc _ _ _ (by simpa using hlC), Below.heap_setCell _ _ _ _ (show lb ≠ rb from fun e => hne e.symm), Below.heap_setCell _ _ _ _ (show lb ≠ rb from fun e => hne e.symm)]
              exact CLBC.out
        · obtain ⟨cd, hcde⟩ : ∃ cd, cd = (whoseR p j c.fSuper).2 := ⟨_, rfl⟩
          have hjw : whoseR p j c.fSuper = (noRef, cd) := by rw [hcde]; exact Prod.ext hno rfl
          rw [← hcde] at hcd
          have RES : Hid (chainR p r = none) := Lib.hid (by
            have h5 := HCH.out
            rw [show 6 - rs.length = (5 - rs.length) + 1 by omega] at h5
            exact chain_out h5 HC.out HQ.out (by simp only [Int.toNat_natCast]; rw [← hcde]; exact hcd))
          have SW : ∀ W, Below w0.heap.size w0 W → Calls Tryz.prog 54 #[.pointer (some ⟨L, 0, none⟩), .int .i64 (j : Int), .string c.fSuper] W fun e w' => e = .returned (.tuple #[.agg #[.int .i64 0, .string ⟨#[]⟩], .int .i64 cd]) ∧ Below W.heap.size W w' := fun W hW => by
            have h := I_resolve p L j c.fSuper W (HL.out.below hW) HP.out hj2 by2
            rw [hjw] at h
            exact h
          have Y2 := fun (wC : World) (hC : Below wA.heap.size wA wC) => HY.out (tt (rs ++ [⟨(j : Int), yn⟩])) (noRef, false) (wC.alloc (.cells #[.int .i64 0, .string ⟨#[]⟩] 35)) (HJB.out _ _ _ (KC wC hC).2.2 ((Below.refl _ _).alloc (Nat.le_refl _) _)) ⟨rs ++ [⟨(j : Int), yn⟩], rfl, Or.inr ⟨rfl, RES.out⟩⟩
          unfold encB noRef at Y2
          dsimp only at Y2
          have i1 : (cd != 1) = true := by simpa using hcd
          have i2 : (cd == 1) = false := by simpa using hcd
          clear hcde hjw hno hcd
          simp only [hfld, Result.andThen]
          gi_wp2_with (refine ⟨trivial, ?_⟩; gi_at_call 54; refine (callsIn_wide.2 (SW wA hEA)).mono ?_; rintro _ wC ⟨rfl, hC⟩; obtain ⟨fn2, tmps2, assign2, body2, hy2, hR2⟩ := Y2 wC hC; obtain ⟨crbC, clbC, hJC⟩ := KC wC hC; obtain ⟨d0, d1, df0, df1⟩ := two_cells crbC)
          refine hR2.mono ?_
          rintro e W4 (⟨rfl, hJ4, _⟩ | ⟨rfl, hJ4⟩)
          · gi_wp2
            refine bodyPost_ret (results_none rfl _ _ _) rfl ?_
            exact ⟨⟨_, rfl⟩, Or.inl ⟨_, Or.inr ⟨_, rfl⟩, hJ4⟩⟩
          · gi_wp2
            refine bodyPost_ret (results_none rfl _ _ _) rfl ?_
            exact ⟨⟨_, rfl⟩, Or.inr ⟨_, hJ4⟩⟩
      · have HQ : Hid (c.fSuper.toList.isEmpty = true) := Lib.hid hqe.symm
        have q2 : c.fSuper.toList = [] := by simpa using hqe.symm
        have q3 : c.fSuper.toList.isEmpty = true := hqe.symm
        have RES : Hid (chainR p r = some (rs ++ [⟨(j : Int), yn⟩])) := Lib.hid (by
          have h5 := HCH.out
          rw [show 6 - rs.length = (5 - rs.length) + 1 by omega] at h5
          exact chain_end h5 HC.out HQ.out)
        clear hqe
        simp only [hfld, Result.andThen]
        gi_wp2
        refine bodyPost_ret (results_none rfl _ _ _) rfl ?_
        exact ⟨⟨_, rfl⟩, Or.inl ⟨_, Or.inl ⟨_, rfl, RES.out⟩, JA.out⟩⟩
    · gi_wp2
      go_end0
      exact ⟨⟨_, rfl⟩, Or.inr ⟨_, hJx3⟩⟩

end Go.Proofs.YtmmlhnjmjmbfpaaGreat
