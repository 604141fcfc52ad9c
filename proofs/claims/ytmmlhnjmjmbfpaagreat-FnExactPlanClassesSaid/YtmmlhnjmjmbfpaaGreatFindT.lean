

/-
  The walks of the reference's l3Chain, l3Find, LodFind. Condition: the data can be read, and the keepers are ok.
-/
import Derived.Test.YtmmlhnjmjmbfpaaGreatFindS
import Derived.Test.YtmmlhnjmjmbfpaaGreatLodT
import Derived.OwnWalk
import Derived.Maps.Own
namespace Go.Proofs.YtmmlhnjmjmbfpaaGreat
set_option linter.unusedSimpArgs false
set_option linter.unusedVariables false
open Go.RowKit

/-- the cells of references -/
def flatR (rs : List DLodRef) : List Value := rs.flatMap fun r => [.int .i64 r.fKeeper, .string r.fName]
theorem flatR_snoc (rs : List DLodRef) (r : DLodRef) : flatR (rs ++ [r]) = flatR rs ++ [.int .i64 r.fKeeper, .string r.fName] := by simp [flatR]
theorem flatR_len (rs : List DLodRef) : (flatR rs).length = rs.length * 2 := by
  induction rs with
  | nil => rfl
  | cons r rs ih => simp [flatR] at ih ⊢; omega
/-- the slice v is the call's own, and holds the references -/
def Refs (w : World) (base : Nat) (v : Value) (rs : List DLodRef) : Prop := w.ownsRow base 35 2 v rs.length (flatR rs)
theorem Refs.form {w : World} {base : Nat} {v : Value} {rs : List DLodRef} (h : Refs w base v rs) (hn : 0 < rs.length) : ∃ g cap, v = .slice (some ⟨g, 0, none⟩) rs.length cap ∧ base ≤ g ∧ rs.length ≤ cap ∧ cap ≤ maxLen ∧ g < w.heap.size := by
  obtain ⟨_, h⟩ := h
  rcases h with ⟨_, h0⟩ | ⟨g, cap, cur, h1, h2, h3, h4, h5, _⟩
  · omega
  · exact ⟨g, cap, h1, h2, h4, h5, (Array.getElem?_eq_some_iff.1 h3).1⟩
theorem Refs.low {w : World} {base base' : Nat} {v : Value} {rs : List DLodRef} (h : Refs w base v rs) (hb : base' ≤ base) : Refs w base' v rs := by
  obtain ⟨h0, h⟩ := h
  rcases h with h | ⟨g, cap, cur, h1, h2, h3⟩
  · exact ⟨h0, Or.inl h⟩
  · exact ⟨h0, Or.inr ⟨g, cap, cur, h1, Nat.le_trans hb h2, h3⟩⟩
theorem Refs.below {w w' : World} {base : Nat} {v : Value} {rs : List DLodRef} (h : Refs w base v rs) (hb : Below w.heap.size w w') : Refs w' base v rs := by
  obtain ⟨h0, h⟩ := h
  rcases h with h | ⟨g, cap, cur, h1, h2, h3, h4⟩
  · exact ⟨h0, Or.inl h⟩
  · exact ⟨h0, Or.inr ⟨g, cap, cur, h1, h2, (hb.block g (Array.getElem?_eq_some_iff.1 h3).1).trans h3, h4⟩⟩
theorem Refs.kept {w w' : World} {base : Nat} {v : Value} {rs : List DLodRef} (h : Refs w base v rs) (hk : ∀ g, v.ownBlock = some g → w'.heap[g]? = w.heap[g]?) : Refs w' base v rs := by
  obtain ⟨h0, h⟩ := h
  rcases h with h | ⟨g, cap, cur, h1, h2, h3, h4⟩
  · exact ⟨h0, Or.inl h⟩
  · exact ⟨h0, Or.inr ⟨g, cap, cur, h1, h2, (hk g (by rw [h1]; rfl)).trans h3, h4⟩⟩
/-- a row of two and more is no block of two cells -/
theorem Refs.apart {w : World} {base b : Nat} {v : Value} {rs : List DLodRef} {x y : Value} {t : TypeId} {fr : Nat × Nat} (h : Refs w base v rs) (hn : 2 ≤ rs.length) (hb : w.heap[b]? = some (.cells #[x, y] t fr)) : v.ownBlock ≠ some b := by
  obtain ⟨_, h⟩ := h
  rcases h with ⟨_, h0⟩ | ⟨g, cap, cur, h1, h2, h3, h4, h5, h6, _⟩
  · omega
  · intro e
    rw [h1] at e
    cases e
    rw [hb] at h3
    cases h3
    simp at h6
    omega
theorem heap_setCell_at {w : World} {b i : Nat} {cs : Array Value} {t : TypeId} {fr : Nat × Nat} {v : Value} (h : w.heap[b]? = some (.cells cs t fr)) : (w.setCell ⟨b, i, none⟩ v).heap[b]? = some (.cells (cs.setIfInBounds i v) t fr) := by
  show (w.heap.modify b _)[b]? = _
  rw [Array.getElem?_modify, if_pos rfl, h]; rfl
theorem two_cells {w : World} {b : Nat} {x y : Value} {t : TypeId} (h : w.heap[b]? = some (.cells #[x, y] t (0, 0))) : w.cell? ⟨b, 0, none⟩ = some x ∧ w.cell? ⟨b, 1, none⟩ = some y ∧ w.frozen? ⟨b, 0, none⟩ = false ∧ w.frozen? ⟨b, 1, none⟩ = false := by
  refine ⟨?_, ?_, ?_, ?_⟩ <;> simp [World.cell?, World.frozen?, h]
theorem refs_one (w : World) (base : Nat) (r : DLodRef) (hb : base ≤ w.heap.size) : Refs (w.alloc (.cells #[.int .i64 r.fKeeper, .string r.fName] 35)) base (.slice (some ⟨w.heap.size, 0, none⟩) 1 1) [r] := by
  refine ⟨rfl, Or.inr ⟨w.heap.size, 1, #[.int .i64 r.fKeeper, .string r.fName], rfl, hb, ?_, Nat.le_refl _, by decide, rfl, rfl⟩⟩
  exact (MapKept.heap_alloc w _).1


def ChainPost (w : World) (o : Option (List DLodRef)) (e : Ending) (w' : World) : Prop := Below w.heap.size w w' ∧ ∃ v, e = .returned (.tuple #[v, .bool o.isSome]) ∧ ∀ rs, o = some rs → Refs w' w.heap.size v rs
/-- a class that is there -/
def There (p : DLodPlan) (r : DLodRef) : Prop := ∃ j : Nat, r.fKeeper = (j : Int) ∧ j < p.fKeepers.length ∧ 0 ≤ ownN p r.fName j ∧ r.fName.size ≤ maxLen
theorem There.cls {p : DLodPlan} {r : DLodRef} (h : There p r) : ∃ c, clsAt p r = some c := by
  obtain ⟨j, h1, h2, h3, h4⟩ := h
  obtain ⟨c, hc, _⟩ := clsAt_of_own h2 h3
  obtain ⟨rk, rn⟩ := r
  simp only at h1
  subst h1
  exact ⟨c, hc⟩

set_option maxRecDepth 100000 in
set_option maxHeartbeats 8000000 in
theorem S_l3Chain (p : DLodPlan) (v1 : Value) (r : DLodRef) (w : World) (s1 : Sl 2 rLodKeeper 0 w v1 p.fKeepers) (hp : lodOk p = true) (ht : There p r) :
    Calls Tryz.prog 20 #[.agg #[v1], .agg #[.int .i64 r.fKeeper, .string r.fName]] w (ChainPost w (chainR p r)) := by
  obtain ⟨a, len, cap, rfl⟩ := s1.form
  obtain ⟨hl, _, _⟩ := s1.len
  have HL := Lib.hid hl
  have HP := Lib.hid hp
  have HT := Lib.hid ht
  clear hl hp ht
  obtain ⟨i0, hi, hz0, hz1, hz2⟩ := info_parts (show (Tryz.prog.info? 35).map (fun i => (i.zero, i.size, i.bytes)) = some (some (.agg #[.int .i64 0, .string ⟨#[]⟩]), 2, 24) by kernel_rfl)
  have I0 := Lib.hid hi
  have Z0 := Lib.hid hz0
  have Z1 := Lib.hid hz1
  have Z2 := Lib.hid hz2
  clear hi hz0 hz1 hz2
  refine calls_hide fun R HR => ?_
  go_enter Tryz.func20, Tryz.ntmps20
  go_wp2_with fail
  obtain ⟨B, hBd⟩ : ∃ B, B = w.heap.size + 1 + 1 + 1 := ⟨_, rfl⟩
  obtain ⟨wS, hwS⟩ : ∃ wS, wS = (((w.alloc (.cells #[.slice a len cap] 33)).alloc (.cells #[.int .i64 r.fKeeper, .string r.fName] 35)).alloc (.cells #[.int .i64 r.fKeeper, .string r.fName] 35)).alloc (.cells #[.int .i64 r.fKeeper, .string r.fName] 35) := ⟨_, rfl⟩
  rw [← hwS]
  have hES : Below w.heap.size w wS := by rw [hwS]; (repeat' (first | (with_reducible exact Below.refl _ _) | (with_reducible refine Below.alloc ?_ ?_ _) | (with_reducible refine Below.setCell ?_ ?_ _) | (with_reducible refine Below.drew ?_) | (refine below_hyp (by assumption) ?_ ?_) | go_size))
  have k0 : wS.cell? ⟨w.heap.size, 0, none⟩ = some (.slice a len cap) := by rw [hwS]; go_simp
  have kB : wS.heap[B]? = some (.cells #[.int .i64 r.fKeeper, .string r.fName] 35 (0, 0)) := by
    rw [hwS, hBd]
    have h := (MapKept.heap_alloc (((w.alloc (.cells #[.slice a len cap] 33)).alloc (.cells #[.int .i64 r.fKeeper, .string r.fName] 35)).alloc (.cells #[.int .i64 r.fKeeper, .string r.fName] 35)) (.cells #[.int .i64 r.fKeeper, .string r.fName] 35)).1
    simpa only [World.size_alloc] using h
  have kR : Refs wS (w.heap.size + 1) (.slice (some ⟨w.heap.size + 1 + 1, 0, none⟩) 1 1) ([] ++ [r]) := by
    have h := refs_one ((w.alloc (.cells #[.slice a len cap] 33)).alloc (.cells #[.int .i64 r.fKeeper, .string r.fName] 35)) (w.heap.size + 1) r (by simp)
    simp only [World.size_alloc] at h
    rw [hwS]
    exact h.below (by (repeat' (first | (with_reducible exact Below.refl _ _) | (with_reducible refine Below.alloc ?_ ?_ _) | (with_reducible refine Below.setCell ?_ ?_ _) | (with_reducible refine Below.drew ?_) | (refine below_hyp (by assumption) ?_ ?_) | go_size)))
  have KB := Lib.hid kB
  have KR := Lib.hid kR
  have K0 := Lib.hid k0
  have hBw : w.heap.size < B := by omega
  have hB2 : w.heap.size + 1 + 1 ≠ B := by omega
  rw [← hBd]
  clear hwS kB kR k0 hBd
  go_loopw [6] (fun vo wr => ∃ (pre : List DLodRef) (x : DLodRef), pre.length ≤ 6 ∧ There p x ∧ chainR p r = (chainF p (6 - pre.length) x).map (pre ++ ·) ∧ Below w.heap.size w wr ∧ wr.cell? ⟨w.heap.size, 0, none⟩ = some (.slice a len cap) ∧ wr.heap[B]? = some (.cells #[.int .i64 x.fKeeper, .string x.fName] 35 (0, 0)) ∧ Refs wr (w.heap.size + 1) vo (pre ++ [x]) ∧ vo.ownBlock ≠ some B) (fun vo _ => 7 - (match vo with | .slice _ n _ => n | _ => 0))
  case atStart => exact ⟨[], r, by simp, HT.out, by simp [chainR], hES, K0.out, KB.out, KR.out, by simp [Value.ownBlock]; omega⟩
  case round =>
    obtain ⟨pre, ⟨xk, xn⟩, hn, ht, hch, hb, c0, cB, hR, hvB⟩ := hrel
    obtain ⟨j, hj1, hj2, hj3, hj4⟩ := id ht
    simp only at hj1 hj2 hj3 hj4
    subst hj1
    have CH := Lib.hid hch
    have TX := Lib.hid ht
    have RR := Lib.hid hR
    have CB := Lib.hid cB
    have hbx := hb.size
    obtain ⟨g, rc, rfl, hgb, hgn, hgm, hgl⟩ := hR.form (by simp)
    obtain ⟨b0, b1, f0, f1⟩ := two_cells cB
    have hBl := block_lt_of_cell b0
    have hwl := block_lt_of_cell c0
    have hgB : g ≠ B := by intro e; subst e; exact hvB rfl
    have hg0 : g ≠ w.heap.size := by omega
    clear hch ht hR cB hvB
    obtain ⟨n, hnd⟩ : ∃ n, n = pre.length := ⟨_, rfl⟩
    have hlen : (pre ++ [(⟨(j : Int), xn⟩ : DLodRef)]).length = n + 1 := by rw [hnd]; simp
    rw [hlen] at hgn ⊢
    rw [← hnd] at hn
    have HLN := Lib.hid hlen
    have HND := Lib.hid hnd
    clear hlen hnd
    by_cases h6 : n ≤ 5
    · go_wp2_with fail
      obtain ⟨c, hc⟩ := TX.out.cls
      have HC := Lib.hid hc
      refine (S_l3Class p _ ⟨(j : Int), xn⟩ c _ (s1.stays rLodKeeper_good (Keeps.of_below hb)) hc hj4).mono ?_
      rintro _ wA ⟨⟨v, rfl, a1, l1, c1, a2, l2, c2, rfl, d1, d2, by1, by2⟩, hA⟩
      have hEA := hb.trans (hA.mono hbx)
      clear hc
      replace c0 := keep_cell hA c0
      replace b0 := keep_cell hA b0
      replace b1 := keep_cell hA b1
      have RA : Hid (Refs wA (w.heap.size + 1) (.slice (some ⟨g, 0, none⟩) (n + 1) rc) (pre ++ [⟨(j : Int), xn⟩])) := Lib.hid (by rw [← HLN.out]; exact RR.out.below hA)
      have BA : Hid (wA.heap[B]? = some (.cells #[.int .i64 (j : Int), .string xn] 35 (0, 0))) := Lib.hid ((hA.block B hBl).trans CB.out)
      have hAs := hA.size
      have hwA := block_lt_of_cell c0
      have hBA := block_lt_of_cell b0
      clear f0 f1 RR CB
      cases hq : c.fSuper.toList.isEmpty
      · have HQ := Lib.hid hq
        have q2 : ¬ c.fSuper.toList = [] := by simpa using hq
        go_wp2_with fail
        have hcs : c.fSuper.size ≤ maxLen := by2
        obtain ⟨jw, hjw⟩ : ∃ jw, jw = whoseR p j c.fSuper := ⟨_, rfl⟩
        refine (S_l3Whose p _ j c.fSuper _ (s1.stays rLodKeeper_good ((Keeps.of_below hEA).trans (Keeps.of_below' (B := wA.heap.size) (by (repeat' (first | (with_reducible exact Below.refl _ _) | (with_reducible refine Below.alloc ?_ ?_ _) | (with_reducible refine Below.setCell ?_ ?_ _) | (with_reducible refine Below.drew ?_) | (refine below_hyp (by assumption) ?_ ?_) | go_size))) (Nat.le_refl _)))) HP.out hj2).mono ?_
        rintro _ wC ⟨rfl, hC⟩
        have hC' : Below wA.heap.size wA wC := by (repeat' (first | (with_reducible exact Below.refl _ _) | (with_reducible refine Below.alloc ?_ ?_ _) | (with_reducible refine Below.setCell ?_ ?_ _) | (with_reducible refine Below.drew ?_) | (refine below_hyp (by assumption) ?_ ?_) | go_size))
        have hEC := hEA.trans (hC'.mono hEA.size)
        have hCs := hC'.size
        have q3 : wC.cell? ⟨wA.heap.size, 1, none⟩ = some (.string c.fSuper) := (hC.cell (by simp)).trans (by go_simp)
        replace c0 := keep_cell hC' c0
        replace b0 := keep_cell hC' b0
        replace b1 := keep_cell hC' b1
        have RC : Hid (Refs wC (w.heap.size + 1) (.slice (some ⟨g, 0, none⟩) (n + 1) rc) (pre ++ [⟨(j : Int), xn⟩])) := Lib.hid (RA.out.below hC')
        have BC : Hid (wC.heap[B]? = some (.cells #[.int .i64 (j : Int), .string xn] 35 (0, 0))) := Lib.hid ((hC'.block B hBA).trans BA.out)
        have hwC := block_lt_of_cell c0
        have hBC := block_lt_of_cell b0
        have hgC : g < wC.heap.size := by omega
        clear RA BA hC
        rw [← hjw]
        have HJ := Lib.hid hjw
        rcases whoseR_code p j c.fSuper with hcd | ⟨hcd, hno⟩
        · obtain ⟨j', he, hj'1, hj'2⟩ := whoseR_there HP.out hj2 hcd
          have hjw' : jw = (⟨(j' : Int), c.fSuper⟩, 1) := hjw.trans he
          have UP : Hid (chainR p r = (chainF p (6 - (n + 1)) ⟨(j' : Int), c.fSuper⟩).map ((pre ++ [⟨(j : Int), xn⟩]) ++ ·)) := Lib.hid (by
            have h5 := CH.out
            rw [← HND.out, show 6 - n = (6 - (n + 1)) + 1 by omega] at h5
            have h6 := chain_up h5 HC.out HQ.out (by simpa using hcd)
            simp only [Int.toNat_natCast] at h6
            rw [he] at h6
            exact h6)
          subst hjw'
          clear hjw hcd he HJ
          unfold refT
          have hbC : w.heap.size ≤ wC.heap.size := hEC.size
          go_wp2_with (at_builtin; refine wpList_append_own _ rfl (.tmp 36) (.tmp 38) 29 rfl (w.heap.size + 1) 35 i0 (.agg #[.int .i64 0, .string ⟨#[]⟩]) 2 24 Tryz.underlying29 I0.out Z0.out Z1.out Z2.out rfl (by decide) _ (n + 1) (flatR (pre ++ [⟨(j : Int), xn⟩])) rfl ?c0 ⟨wC.heap.size + 1, 0, none⟩ 1 1 [.int .i64 (j' : Int), .string c.fSuper] rfl rfl ?c1 ?c2 ?c3 ?c4 ?c5 ?_)
          case c0 => have h := RC.out.below (w' := (wC.alloc (.cells #[.int .i64 (j' : Int), .string c.fSuper] 35)).alloc (.cells #[.int .i64 (j' : Int), .string c.fSuper] 35)) (by (repeat' (first | (with_reducible exact Below.refl _ _) | (with_reducible refine Below.alloc ?_ ?_ _) | (with_reducible refine Below.setCell ?_ ?_ _) | (with_reducible refine Below.drew ?_) | (refine below_hyp (by assumption) ?_ ?_) | go_size))); unfold Refs at h; rw [HLN.out] at h; exact h
          case c1 =>
            intro q u hq
            match q, hq with
            | 0, hq => cases hq; simp [Addr.add]
            | 1, hq => cases hq; simp [Addr.add]
            | q + 2, hq => simp at hq
          case c2 => intro u hu; simp at hu; rcases hu with rfl | rfl <;> rfl
          case c3 => unfold maxLen; omega
          case c4 => omega
          case c5 => simp; omega
          intro v' w1 hown' hg _
          have hzN := hg.size
          simp only [World.size_alloc] at hzN
          have blk : ∀ k, k < wC.heap.size + 1 + 1 → k ≠ g → w1.heap[k]? = ((wC.alloc (.cells #[.int .i64 (j' : Int), .string c.fSuper] 35)).alloc (.cells #[.int .i64 (j' : Int), .string c.fSuper] 35)).heap[k]? := fun k hk hne => hg.block k (by simp; omega) (by simp [Value.ownBlock]; exact hne)
          have R1 : Hid (Refs w1 (w.heap.size + 1) v' (pre ++ [⟨(j : Int), xn⟩] ++ [⟨(j' : Int), c.fSuper⟩])) := Lib.hid (by
            unfold Refs
            rw [List.length_append, HLN.out, flatR_snoc]
            exact hown')
          have B1 : w1.heap[B]? = some (.cells #[.int .i64 (j : Int), .string xn] 35 (0, 0)) := by
            rw [blk B (by omega) (fun e => hgB e.symm)]
            exact ((show Below wC.heap.size wC _ by (repeat' (first | (with_reducible exact Below.refl _ _) | (with_reducible refine Below.alloc ?_ ?_ _) | (with_reducible refine Below.setCell ?_ ?_ _) | (with_reducible refine Below.drew ?_) | (refine below_hyp (by assumption) ?_ ?_) | go_size))).block B hBC).trans BC.out
          have hap := R1.out.apart (by simp) B1
          obtain ⟨m0, m1, mf0, mf1⟩ := two_cells B1
          have n0 : w1.cell? ⟨wC.heap.size, 0, none⟩ = some (.int .i64 (j' : Int)) := by rw [cell_of_heap (blk _ (by omega) (by omega))]; go_simp
          have n1 : w1.cell? ⟨wC.heap.size, 1, none⟩ = some (.string c.fSuper) := by rw [cell_of_heap (blk _ (by omega) (by omega))]; go_simp
          have d0 : w1.cell? ⟨w.heap.size, 0, none⟩ = some (.slice a len cap) := by rw [cell_of_heap (blk _ (by omega) (fun e => hg0 e.symm))]; go_simp
          have hE1 : Below w.heap.size w w1 := (show Below w.heap.size w ((wC.alloc (.cells #[.int .i64 (j' : Int), .string c.fSuper] 35)).alloc (.cells #[.int .i64 (j' : Int), .string c.fSuper] 35)) by (repeat' (first | (with_reducible exact Below.refl _ _) | (with_reducible refine Below.alloc ?_ ?_ _) | (with_reducible refine Below.setCell ?_ ?_ _) | (with_reducible refine Below.drew ?_) | (refine below_hyp (by assumption) ?_ ?_) | go_size))).grown hg (by simp; omega) (fun k h => by cases h; exact Nat.le_of_succ_le hgb)
          have BB1 := Lib.hid B1
          have D0 := Lib.hid d0
          have HAP := Lib.hid hap
          clear hown' hg blk B1 hap c0 b0 b1 q3
          go_wp2
          go_roundw
          case measure =>
            obtain ⟨g', rc', e', _⟩ := R1.out.form (by simp)
            rw [e']
            simp
            have := HLN.out
            simp at this
            omega
          case rel =>
            refine ⟨pre ++ [⟨(j : Int), xn⟩], ⟨(j' : Int), c.fSuper⟩, by rw [HLN.out]; omega, ⟨j', rfl, hj'1, hj'2, hcs⟩, by rw [HLN.out]; exact UP.out, (hE1.setCell (by show _ ≤ B; omega) _).setCell (by show _ ≤ B; omega) _, ?_, ?_, ?_, HAP.out⟩
            · rw [World.cell?_setCell_far _ _ _ _ (by show B ≠ w.heap.size; omega), World.cell?_setCell_far _ _ _ _ (by show B ≠ w.heap.size; omega)]; exact D0.out
            · have h := heap_setCell_at (i := 1) (v := .string c.fSuper) (heap_setCell_at (i := 0) (v := .int .i64 (j' : Int)) BB1.out)
              simpa using h
            · refine R1.out.kept fun q hq => ?_
              have hne : q ≠ B := fun e => HAP.out (by rw [hq, e])
              rw [Below.heap_setCell _ _ _ _ hne, Below.heap_setCell _ _ _ _ hne]
        · have hjw' : jw = (noRef, (whoseR p j c.fSuper).2) := by rw [hjw]; exact Prod.ext hno rfl
          obtain ⟨cd, hcde⟩ : ∃ cd, cd = (whoseR p j c.fSuper).2 := ⟨_, rfl⟩
          rw [← hcde] at hjw' hcd
          have RES : Hid (chainR p r = none) := Lib.hid (by
            have h5 := CH.out
            rw [← HND.out, show 6 - n = (6 - (n + 1)) + 1 by omega] at h5
            exact chain_out h5 HC.out HQ.out (by simp only [Int.toNat_natCast]; rw [← hcde]; exact hcd))
          have RO : Hid ((chainR p r).isSome = false) := Lib.hid (by rw [RES.out]; rfl)
          have i1 : (cd != 1) = true := by simpa using hcd
          have i2 : (cd == 1) = false := by simpa using hcd
          subst hjw'
          clear hjw hcde hno HJ hcd
          unfold refT noRef
          go_wp2
          all_goals (try go_returns)
          all_goals exact HR.out _ _ ⟨by (repeat' (first | (with_reducible exact Below.refl _ _) | (with_reducible refine Below.alloc ?_ ?_ _) | (with_reducible refine Below.setCell ?_ ?_ _) | (with_reducible refine Below.drew ?_) | (refine below_hyp (by assumption) ?_ ?_) | go_size)), _, by first | (rw [RO.out]; done) | (rw [RO.out]; rfl), fun rs h => by rw [RES.out] at h; cases h⟩
      · have HQ := Lib.hid hq
        have q2 : c.fSuper.toList = [] := by simpa using hq
        have RES : Hid (chainR p r = some (pre ++ [⟨(j : Int), xn⟩])) := Lib.hid (by
          have h5 := CH.out
          rw [← HND.out, show 6 - n = (5 - n) + 1 by omega] at h5
          exact chain_end h5 HC.out HQ.out)
        have RO : Hid ((chainR p r).isSome = true) := Lib.hid (by rw [RES.out]; rfl)
        go_wp2
        all_goals (try go_returns)
        all_goals exact HR.out _ _ ⟨by (repeat' (first | (with_reducible exact Below.refl _ _) | (with_reducible refine Below.alloc ?_ ?_ _) | (with_reducible refine Below.setCell ?_ ?_ _) | (with_reducible refine Below.drew ?_) | (refine below_hyp (by assumption) ?_ ?_) | go_size)), _, by first | (rw [RO.out]; done) | (rw [RO.out]; rfl), fun rs h => by rw [RES.out] at h; cases h; exact (RA.out.below (by (repeat' (first | (with_reducible exact Below.refl _ _) | (with_reducible refine Below.alloc ?_ ?_ _) | (with_reducible refine Below.setCell ?_ ?_ _) | (with_reducible refine Below.drew ?_) | (refine below_hyp (by assumption) ?_ ?_) | go_size)))).low (by omega)⟩
    · have RES : Hid (chainR p r = none) := Lib.hid (by
        have h5 := CH.out
        rw [← HND.out, show 6 - n = 0 by omega] at h5
        exact chain_deep h5)
      have RO : Hid ((chainR p r).isSome = false) := Lib.hid (by rw [RES.out]; rfl)
      go_wp2
      all_goals (try go_returns)
      all_goals exact HR.out _ _ ⟨by (repeat' (first | (with_reducible exact Below.refl _ _) | (with_reducible refine Below.alloc ?_ ?_ _) | (with_reducible refine Below.setCell ?_ ?_ _) | (with_reducible refine Below.drew ?_) | (refine below_hyp (by assumption) ?_ ?_) | go_size)), _, by first | (rw [RO.out]; done) | (rw [RO.out]; rfl), fun rs h => by rw [RES.out] at h; cases h⟩

set_option maxRecDepth 100000 in
set_option maxHeartbeats 8000000 in
theorem S_l3Find (p : DLodPlan) (v1 : Value) (i : Nat) (nm : ByteArray) (w : World) (s1 : Sl 2 rLodKeeper 0 w v1 p.fKeepers) (hp : lodOk p = true) (hi : i < p.fKeepers.length) (hnm : nm.size ≤ maxLen) :
    Calls Tryz.prog 34 #[.agg #[v1], .int .i64 (i : Int), .string nm] w fun e w' => e = .returned (refT (findR p i nm)) ∧ Below w.heap.size w w' := by
  obtain ⟨a, len, cap, rfl⟩ := s1.form
  have HP := Lib.hid hp
  clear hp
  obtain ⟨jw, hjw⟩ : ∃ jw, jw = whoseR p i nm := ⟨_, rfl⟩
  have SW : ∀ W, Below w.heap.size w W → Calls Tryz.prog 36 #[.agg #[.slice a len cap], .int .i64 (i : Int), .string nm] W fun e w' => e = .returned (refT jw) ∧ Below W.heap.size W w' := fun W hW => by
    rw [hjw]; exact S_l3Whose p _ i nm W (s1.stays rLodKeeper_good (Keeps.of_below hW)) HP.out hi
  rcases whoseR_code p i nm with hcd | ⟨hcd, hno⟩
  · obtain ⟨j', he, hj'1, hj'2⟩ := whoseR_there HP.out hi hcd
    have hjw' : jw = (⟨(j' : Int), nm⟩, 1) := hjw.trans he
    have HT : Hid (There p ⟨(j' : Int), nm⟩) := Lib.hid ⟨j', rfl, hj'1, hj'2, hnm⟩
    have RV : Hid (findR p i nm = if (chainR p ⟨(j' : Int), nm⟩).isSome then (⟨(j' : Int), nm⟩, 1) else (noRef, 4)) := Lib.hid (by unfold findR; rw [he]; rfl)
    subst hjw'
    clear hjw hcd he
    unfold refT at SW
    refine calls_hide fun R HR => ?_
    go_enter Tryz.func34, Tryz.ntmps34
    go_wp2_with fail
    refine (SW _ (by (repeat' (first | (with_reducible exact Below.refl _ _) | (with_reducible refine Below.alloc ?_ ?_ _) | (with_reducible refine Below.setCell ?_ ?_ _) | (with_reducible refine Below.drew ?_) | (refine below_hyp (by assumption) ?_ ?_) | go_size)))).mono ?_
    rintro _ wA ⟨rfl, hA⟩
    have hEA : Below w.heap.size w wA := by (repeat' (first | (with_reducible exact Below.refl _ _) | (with_reducible refine Below.alloc ?_ ?_ _) | (with_reducible refine Below.setCell ?_ ?_ _) | (with_reducible refine Below.drew ?_) | (refine below_hyp (by assumption) ?_ ?_) | go_size))
    have hAs := (hA).size; (try simp only [World.size_alloc, World.size_setCell, World.size_drew] at hAs)
    obtain ⟨hAac, hAad, hAao, hAaf, hAag, hAap, hAaz, hAax, hAay⟩ := bfacts (n := w.heap.size) (k := 2) hA (by go_size) (by go_size); replace hAad := hAad (by decide); replace hAag := hAag (by decide); replace hAax := hAax (by decide); have hAac1 := fun o => hAac 1 o (by decide); have hAaf1 := fun o => hAaf 1 o (by decide); have hAaz1 := hAaz 1 (by decide); clear hAac hAaf hAaz
    go_wp2_with fail
    refine (S_l3Chain p _ ⟨(j' : Int), nm⟩ _ (s1.stays rLodKeeper_good ((Keeps.of_below hEA).trans (Keeps.of_below' (B := wA.heap.size) (by (repeat' (first | (with_reducible exact Below.refl _ _) | (with_reducible refine Below.alloc ?_ ?_ _) | (with_reducible refine Below.setCell ?_ ?_ _) | (with_reducible refine Below.drew ?_) | (refine below_hyp (by assumption) ?_ ?_) | go_size))) (Nat.le_refl _)))) HP.out HT.out).mono ?_
    rintro _ wB ⟨hB, v, rfl, _⟩
    have hAB : Below wA.heap.size wA wB := by (repeat' (first | (with_reducible exact Below.refl _ _) | (with_reducible refine Below.alloc ?_ ?_ _) | (with_reducible refine Below.setCell ?_ ?_ _) | (with_reducible refine Below.drew ?_) | (refine below_hyp (by assumption) ?_ ?_) | go_size))
    have hEB := hEA.trans (hAB.mono hEA.size)
    have hBs := hB.size
    simp only [World.size_alloc] at hBs
    have z0 : wA.cell? ⟨w.heap.size + 1, 0, none⟩ = some (.int .i64 0) := by go_simp
    have z1 : wA.cell? ⟨w.heap.size + 1, 1, none⟩ = some (.string ⟨#[]⟩) := by go_simp
    have zf0 : wA.frozen? ⟨w.heap.size + 1, 0, none⟩ = false := by go_simp
    have zf1 : wA.frozen? ⟨w.heap.size + 1, 1, none⟩ = false := by go_simp
    have y0 := keep_cell hAB z0
    have y1 := keep_cell hAB z1
    have yf0 := keep_frozen hAB z0 zf0
    have yf1 := keep_frozen hAB z1 zf1
    have x0 : wB.cell? ⟨wA.heap.size, 0, none⟩ = some (.int .i64 (j' : Int)) := (hB.cell (by simp)).trans (by go_simp)
    have x1 : wB.cell? ⟨wA.heap.size, 1, none⟩ = some (.string nm) := (hB.cell (by simp)).trans (by go_simp)
    have hBl := block_lt_of_cell y0
    obtain ⟨bb, hbb⟩ : ∃ bb, bb = (chainR p ⟨(j' : Int), nm⟩).isSome := ⟨_, rfl⟩
    rw [← hbb]
    have RV2 : Hid (findR p i nm = if bb then (⟨(j' : Int), nm⟩, 1) else (noRef, 4)) := Lib.hid (by rw [RV.out, hbb])
    have hne : w.heap.size + 1 ≠ wA.heap.size := by have := block_lt_of_cell z0; omega
    clear hbb RV z0 z1 zf0 zf1 hAad hAag hAax hAay hAao hAap hB
    cases bb
    all_goals
      go_wp2
      all_goals
        refine bodyPost_ret (v := ?_) ?hrun rfl ?_
        case hrun => (simp only [results, Tryz.results34]; go_simp; first | done | exact rfl)
        exact HR.out _ _ ⟨by rw [RV2.out]; rfl, by (repeat' (first | (with_reducible exact Below.refl _ _) | (with_reducible refine Below.alloc ?_ ?_ _) | (with_reducible refine Below.setCell ?_ ?_ _) | (with_reducible refine Below.drew ?_) | (refine below_hyp (by assumption) ?_ ?_) | go_size))⟩
  · obtain ⟨cd, hcde⟩ : ∃ cd, cd = (whoseR p i nm).2 := ⟨_, rfl⟩
    have hjw' : jw = (noRef, cd) := by rw [hjw, hcde]; exact Prod.ext hno rfl
    rw [← hcde] at hcd
    have RV : Hid (findR p i nm = (noRef, cd)) := Lib.hid (by unfold findR; rw [← hcde, if_neg hcd])
    have i1 : (cd != 1) = true := by simpa using hcd
    have i2 : (cd == 1) = false := by simpa using hcd
    subst hjw'
    clear hjw hcde hno hcd
    unfold refT noRef at SW
    refine calls_hide fun R HR => ?_
    go_enter Tryz.func34, Tryz.ntmps34
    go_wp2_with fail
    refine (SW _ (by (repeat' (first | (with_reducible exact Below.refl _ _) | (with_reducible refine Below.alloc ?_ ?_ _) | (with_reducible refine Below.setCell ?_ ?_ _) | (with_reducible refine Below.drew ?_) | (refine below_hyp (by assumption) ?_ ?_) | go_size)))).mono ?_
    rintro _ wA ⟨rfl, hA⟩
    have hEA : Below w.heap.size w wA := by (repeat' (first | (with_reducible exact Below.refl _ _) | (with_reducible refine Below.alloc ?_ ?_ _) | (with_reducible refine Below.setCell ?_ ?_ _) | (with_reducible refine Below.drew ?_) | (refine below_hyp (by assumption) ?_ ?_) | go_size))
    have hAs := (hA).size; (try simp only [World.size_alloc, World.size_setCell, World.size_drew] at hAs)
    obtain ⟨hAac, hAad, hAao, hAaf, hAag, hAap, hAaz, hAax, hAay⟩ := bfacts (n := w.heap.size) (k := 2) hA (by go_size) (by go_size); replace hAad := hAad (by decide); replace hAag := hAag (by decide); replace hAax := hAax (by decide); have hAac1 := fun o => hAac 1 o (by decide); have hAaf1 := fun o => hAaf 1 o (by decide); have hAaz1 := hAaz 1 (by decide); clear hAac hAaf hAaz
    go_wp2
    all_goals
      refine bodyPost_ret (v := ?_) ?hrun rfl ?_
      case hrun => (simp only [results, Tryz.results34]; go_simp; first | done | exact rfl)
      exact HR.out _ _ ⟨by rw [RV.out]; rfl, by (repeat' (first | (with_reducible exact Below.refl _ _) | (with_reducible refine Below.alloc ?_ ?_ _) | (with_reducible refine Below.setCell ?_ ?_ _) | (with_reducible refine Below.drew ?_) | (refine below_hyp (by assumption) ?_ ?_) | go_size))⟩

end Go.Proofs.YtmmlhnjmjmbfpaaGreat
