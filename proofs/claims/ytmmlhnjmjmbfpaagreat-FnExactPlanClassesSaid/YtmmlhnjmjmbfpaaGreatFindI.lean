

/-
  The walks of the program's path, resolve and class. Condition: a lodge of keepers that are ok.
-/
import Derived.Test.YtmmlhnjmjmbfpaaGreatFindS
import Derived.Test.YtmmlhnjmjmbfpaaGreatLodN
import Derived.OwnWalk
import Derived.StillTailTactics
namespace Go.Proofs.YtmmlhnjmjmbfpaaGreat
set_option linter.unusedSimpArgs false
set_option linter.unusedVariables false
open Go.RowKit

/-- the slice v is the call's own, and holds the numbers -/
def Ints (w : World) (base : Nat) (v : Value) (ns : List Nat) : Prop := w.ownsRow base 3 1 v ns.length (ns.map fun n : Nat => Value.int .i64 (n : Int))
theorem Ints.form {w : World} {base : Nat} {v : Value} {ns : List Nat} (h : Ints w base v ns) (hn : 0 < ns.length) : ∃ g cap, v = .slice (some ⟨g, 0, none⟩) ns.length cap ∧ base ≤ g ∧ ns.length ≤ cap ∧ cap ≤ maxLen ∧ g < w.heap.size := by
  obtain ⟨_, h⟩ := h
  rcases h with ⟨_, h0⟩ | ⟨g, cap, cur, h1, h2, h3, h4, h5, _⟩
  · omega
  · exact ⟨g, cap, h1, h2, h4, h5, (Array.getElem?_eq_some_iff.1 h3).1⟩
theorem Ints.below {w w' : World} {base : Nat} {v : Value} {ns : List Nat} (h : Ints w base v ns) (hb : Below w.heap.size w w') : Ints w' base v ns := by
  obtain ⟨h0, h⟩ := h
  rcases h with h | ⟨g, cap, cur, h1, h2, h3, h4⟩
  · exact ⟨h0, Or.inl h⟩
  · exact ⟨h0, Or.inr ⟨g, cap, cur, h1, h2, (hb.block g (Array.getElem?_eq_some_iff.1 h3).1).trans h3, h4⟩⟩
theorem Ints.cell {w : World} {base g len cap : Nat} {ns : List Nat} (h : Ints w base (.slice (some ⟨g, 0, none⟩) len cap) ns) {q n : Nat} (hq : ns[q]? = some n) : w.cell? ⟨g, q, none⟩ = some (.int .i64 (n : Int)) := by
  have := World.ownsRow.cells h (g := g) rfl q (.int .i64 (n : Int)) (by simp [hq])
  rw [Addr.add_mid, Nat.zero_add] at this
  exact this
theorem ints_one (w : World) (base i : Nat) (hb : base ≤ w.heap.size) : Ints (w.alloc (.cells #[.int .i64 (i : Int)] 3)) base (.slice (some ⟨w.heap.size, 0, none⟩) 1 1) [i] := by
  refine ⟨rfl, Or.inr ⟨w.heap.size, 1, #[.int .i64 (i : Int)], rfl, hb, ?_, Nat.le_refl _, by decide, rfl, rfl⟩⟩
  exact (MapKept.heap_alloc w _).1

theorem ask_nxt (p : DLodPlan) (nm : ByteArray) (i : Nat) : planF p askK (i : Int) nm = optI (nxt p nm i) := by
  unfold planF nxt
  rw [if_pos (by omega), Int.toNat_natCast]
  cases p.fKeepers[i]? with
  | none => simp [optI]
  | some k => rfl
theorem own_own (p : DLodPlan) (nm : ByteArray) (i : Nat) : planF p ownK (i : Int) nm = optI (ownN p nm i) := by
  unfold planF ownN
  rw [if_pos (by omega), Int.toNat_natCast]
  cases p.fKeepers[i]? with
  | none => simp [optI]
  | some k => rfl

def PathPost (w : World) (wh : Int × Nat) (e : Ending) (w' : World) : Prop := Below w.heap.size w w' ∧ ((wh.1 = 1 ∧ ∃ v seen, e = .returned (.tuple #[v, .int .i64 1]) ∧ Ints w' w.heap.size v seen ∧ ∃ pre, seen = pre ++ [wh.2]) ∨ (wh.1 ≠ 1 ∧ e = .returned (.tuple #[.slice none 0 0, .int .i64 wh.1])))

set_option maxRecDepth 100000 in
set_option maxHeartbeats 8000000 in
theorem I_path (p : DLodPlan) (L i : Nat) (nm : ByteArray) (w : World) (hl : Lodge w L p) (hp : lodOk p = true) (hi : i < p.fKeepers.length) (hnm : nm.size ≤ maxLen) :
    Calls Tryz.prog 68 #[.pointer (some ⟨L, 0, none⟩), .int .i64 (i : Int), .string nm] w (PathPost w (whose p i nm)) := by
  obtain ⟨a, len, cap, bo, ba, bl, n, c0, c1, c2, c3, s1, mo, ma, ml, hn⟩ := id hl
  obtain ⟨hln, hcap, hm⟩ := s1.len
  have hlen := lodOk_len hp
  rw [hln] at hlen hi
  have HLN := Lib.hid hln
  have HP := Lib.hid hp
  have MO := Lib.hid mo
  have MA := Lib.hid ma
  have HLD := Lib.hid hl
  obtain ⟨i0, hi0, hz0, hz1, hz2⟩ := info_parts (show (Tryz.prog.info? 3).map (fun i => (i.zero, i.size, i.bytes)) = some (some (.int .i64 0), 1, 8) by kernel_rfl)
  have I0 := Lib.hid hi0
  have Z0 := Lib.hid hz0
  have Z1 := Lib.hid hz1
  have Z2 := Lib.hid hz2
  have C1 := Lib.hid c1
  have C2 := Lib.hid c2
  clear hi0 hz0 hz1 hz2 hln hp mo ma ml c1 c2 c3 hl
  have hq : (decide ((0 : Int) ≤ (i : Int)) && decide ((i : Int) < (len : Int))) = true := by simp; omega
  refine calls_hide fun R HR => ?_
  go_enter Tryz.func68, Tryz.ntmps68
  go_wp2_with fail
  refine (I_has L (i : Int) _ len cap _ c0 (by omega)).mono ?_
  rintro _ _ ⟨rfl, rfl⟩
  rw [hq]
  clear hq
  go_wp2_with fail
  go_loopw [1, 8] (fun zk vo wr => ∃ (seen : List Nat) (at' : Nat), Asked p nm i seen at' ∧ zk = .int .i64 (at' : Int) ∧ Ints wr w.heap.size vo seen ∧ Below w.heap.size w wr) (fun _ vo _ => 4 - (match vo with | .slice _ n _ => n | _ => 0))
  case atStart => exact ⟨[i], i, Asked.start (by rw [HLN.out]; exact hi), rfl, ints_one w w.heap.size i (Nat.le_refl _), by (repeat' (first | (with_reducible exact Below.refl _ _) | (with_reducible refine Below.alloc ?_ ?_ _) | (with_reducible refine Below.setCell ?_ ?_ _) | (with_reducible refine Below.drew ?_) | (refine below_hyp (by assumption) ?_ ?_) | go_size))⟩
  case round =>
    obtain ⟨seen, at', has, rfl, hR, hb⟩ := hrel
    have AS := Lib.hid has
    have hsl := has.len HP.out
    have hbx := hb.size
    have hat : at' < len := by rw [← HLN.out]; exact has.inn _ has.mem
    obtain ⟨g, rc, rfl, hgb, hgn, hgm, hgl⟩ := hR.form (by omega)
    have RR := Lib.hid hR
    obtain ⟨sn, hsn⟩ : ∃ sn, sn = seen.length := ⟨_, rfl⟩
    rw [← hsn] at hgn hsl ⊢
    have HSN := Lib.hid hsn
    have k0 := keep_cell hb c0
    have k1 := keep_cell hb C1.out
    have k2 := keep_cell hb C2.out
    have KF : Hid (KeyFit (at' : Int) nm) := Lib.hid ⟨WalkArith.wf_i64 (by omega), hnm⟩
    have LA : (Instr.lookup 76 (.map (some ba)) (.agg #[.int .i64 (at' : Int), .string nm]) true).run Tryz.prog wr = .ok (.tuple #[.int .i64 ((optI (nxt p nm at')).getD 0), .bool (optI (nxt p nm at')).isSome]) wr := by
      have := (MA.out.below hb).look_ok KF.out
      rw [ask_nxt] at this
      exact this
    have LO : (Instr.lookup 76 (.map (some bo)) (.agg #[.int .i64 (at' : Int), .string nm]) true).run Tryz.prog wr = .ok (.tuple #[.int .i64 ((optI (ownN p nm at')).getD 0), .bool (optI (ownN p nm at')).isSome]) wr := by
      have := (MO.out.below hb).look_ok KF.out
      rw [own_own] at this
      exact this
    clear has hR hsn
    by_cases hz : nxt p nm at' < 0
    · have hq : (optI (nxt p nm at')).isSome = false := by unfold optI; rw [if_pos hz]; rfl
      have hq2 : (optI (nxt p nm at')).getD 0 = 0 := by unfold optI; rw [if_pos hz]; rfl
      rw [hq, hq2] at LA
      have ST : Hid (whose p i nm = if ownN p nm at' < 0 then (2, 0) else (1, at')) := Lib.hid (AS.out.stop HP.out hz)
      clear hq hq2 hz
      by_cases ho : ownN p nm at' < 0
      · have hq : (optI (ownN p nm at')).isSome = false := by unfold optI; rw [if_pos ho]; rfl
        have hq2 : (optI (ownN p nm at')).getD 0 = 0 := by unfold optI; rw [if_pos ho]; rfl
        rw [hq, hq2] at LO
        have RV : Hid (whose p i nm = (2, 0)) := Lib.hid (by have := ST.out; rw [if_pos ho] at this; exact this)
        clear hq hq2 ho ST
        go_wp2
        all_goals (try go_returns)
        all_goals exact HR.out _ _ ⟨hb, Or.inr (by rw [RV.out]; exact ⟨by decide, rfl⟩)⟩
      · have hq : (optI (ownN p nm at')).isSome = true := by unfold optI; rw [if_neg ho]; rfl
        have hq2 : (optI (ownN p nm at')).getD 0 = ownN p nm at' := by unfold optI; rw [if_neg ho]; rfl
        rw [hq, hq2] at LO
        have RV : Hid (whose p i nm = (1, at')) := Lib.hid (by have := ST.out; rw [if_neg ho] at this; exact this)
        clear hq hq2 ho ST
        go_wp2
        all_goals (try go_returns)
        all_goals exact HR.out _ _ ⟨hb, Or.inl (by rw [RV.out]; exact ⟨rfl, _, seen, rfl, by rw [HSN.out]; exact RR.out, AS.out.ends⟩)⟩
    · have hq : (optI (nxt p nm at')).isSome = true := by unfold optI; rw [if_neg hz]; rfl
      have hq2 : (optI (nxt p nm at')).getD 0 = nxt p nm at' := by unfold optI; rw [if_neg hz]; rfl
      rw [hq, hq2] at LA
      clear hq hq2
      obtain ⟨nx, hnx⟩ : ∃ nx : Nat, nxt p nm at' = (nx : Int) := ⟨(nxt p nm at').toNat, by omega⟩
      rw [hnx] at LA
      have NX := Lib.hid hnx
      clear hz hnx LO
      go_wp2_with fail
      go_loop [36] (fun z => ∃ q : Nat, q ≤ sn ∧ z = .int .i64 q ∧ EachTo (nots fun s => s == nx) seen q = true) (fun z => sn - (intOf z).toNat)
      case atStart => exact ⟨0, Nat.zero_le _, rfl, rfl⟩
      case round =>
        obtain ⟨q, hq, rfl, hqa⟩ := hrel
        have HQ := Lib.hid hqa
        clear hqa
        by_cases hlq : q < sn
        · obtain ⟨s, hs⟩ : ∃ s, seen[q]? = some s := ⟨_, List.getElem?_eq_getElem (by rw [← HSN.out]; exact hlq)⟩
          have E1 := Lib.hid hs
          have qc : wr.cell? ⟨g, q, none⟩ = some (.int .i64 (s : Int)) := (show Ints wr w.heap.size (.slice (some ⟨g, 0, none⟩) sn rc) seen by rw [HSN.out]; exact RR.out).cell hs
          clear hs
          by_cases hsn2 : s = nx
          · subst hsn2
            have RV : Hid (whose p i nm = (3, 0)) := Lib.hid (AS.out.ring (by rw [NX.out]; omega) (by rw [NX.out, Int.toNat_natCast]; exact List.mem_of_getElem? E1.out))
            have i1 : ((s : Int) == (s : Int)) = true := by simp
            go_wp2
            all_goals (try go_returns)
            all_goals exact HR.out _ _ ⟨hb, Or.inr (by rw [RV.out]; exact ⟨by decide, rfl⟩)⟩
          · have i1 : ((s : Int) == (nx : Int)) = false := by simp; omega
            have i2 : (s == nx) = false := by simpa using hsn2
            have I2 := Lib.hid i2
            have hsn3 : ¬ (s : Int) = (nx : Int) := by omega
            clear hsn2
            go_wp2
            go_round
            case rel => exact ⟨q + 1, by omega, by go_num, EachTo.step HQ.out E1.out (by simp [nots, I2.out])⟩
            case measure => simp [intOf]; omega
        · obtain rfl : q = sn := by omega
          have NI : Hid (nx ∉ seen) := Lib.hid (fun hm => by
            obtain ⟨y, hy⟩ := List.mem_iff_getElem?.1 hm
            have := EachTo.mem HQ.out y nx (by rw [HSN.out]; exact (List.getElem?_eq_some_iff.1 hy).1) hy
            simp [nots] at this)
          have NA : Hid (Asked p nm i (seen ++ [nx]) nx) := Lib.hid (by
            have h := AS.out.step HP.out (by rw [NX.out]; omega) (by rw [NX.out, Int.toNat_natCast]; exact NI.out)
            rw [NX.out, Int.toNat_natCast] at h
            exact h)
          go_wp2_with (at_builtin; refine wpList_append_own _ rfl (.tmp 44) (.tmp 46) 125 rfl w.heap.size 3 i0 (.int .i64 0) 1 8 Tryz.underlying125 I0.out Z0.out Z1.out Z2.out rfl (by decide) _ q (seen.map fun n : Nat => Value.int .i64 (n : Int)) rfl ?c0 ⟨wr.heap.size, 0, none⟩ 1 1 [.int .i64 (nx : Int)] rfl rfl ?c1 ?c2 ?c3 ?c4 ?c5 ?_)
          case c0 => have h := RR.out.below (w' := wr.alloc (.cells #[.int .i64 (nx : Int)] 3)) (by (repeat' (first | (with_reducible exact Below.refl _ _) | (with_reducible refine Below.alloc ?_ ?_ _) | (with_reducible refine Below.setCell ?_ ?_ _) | (with_reducible refine Below.drew ?_) | (refine below_hyp (by assumption) ?_ ?_) | go_size))); unfold Ints at h; rw [← HSN.out] at h; exact h
          case c2 => rfl
          case c3 => unfold maxLen; omega
          case c4 => omega
          case c5 => omega
          intro v' w1 hown' hg _
          have R1 : Hid (Ints w1 w.heap.size v' (seen ++ [nx])) := Lib.hid (by
            unfold Ints
            rw [List.length_append, ← HSN.out, List.map_append]
            exact hown')
          have hE1 : Below w.heap.size w w1 := (show Below w.heap.size w (wr.alloc (.cells #[.int .i64 (nx : Int)] 3)) by (repeat' (first | (with_reducible exact Below.refl _ _) | (with_reducible refine Below.alloc ?_ ?_ _) | (with_reducible refine Below.setCell ?_ ?_ _) | (with_reducible refine Below.drew ?_) | (refine below_hyp (by assumption) ?_ ?_) | go_size))).grown hg (by simp; omega) (fun k h => by cases h; exact hgb)
          have HE1 := Lib.hid hE1
          clear hown' hg k0 k1 k2 LA hE1
          go_wp2
          go_roundw
          case measure =>
            obtain ⟨g', rc', e', _⟩ := R1.out.form (by simp)
            rw [e']
            have := HSN.out
            simp
            omega
          case rel => exact ⟨seen ++ [nx], nx, NA.out, rfl, R1.out, HE1.out⟩

set_option maxRecDepth 100000 in
set_option maxHeartbeats 8000000 in
theorem I_resolve (p : DLodPlan) (L i : Nat) (nm : ByteArray) (w : World) (hl : Lodge w L p) (hp : lodOk p = true) (hi : i < p.fKeepers.length) (hnm : nm.size ≤ maxLen) :
    Calls Tryz.prog 54 #[.pointer (some ⟨L, 0, none⟩), .int .i64 (i : Int), .string nm] w fun e w' => e = .returned (refT (whoseR p i nm)) ∧ Below w.heap.size w w' := by
  have HLD := Lib.hid hl
  have HP := Lib.hid hp
  clear hl hp
  obtain ⟨⟨cd, at'⟩, hwh⟩ : ∃ wh, wh = whose p i nm := ⟨_, rfl⟩
  have RV : Hid (whoseR p i nm = if cd = 1 then (⟨(at' : Int), nm⟩, 1) else (noRef, cd)) := Lib.hid (whoseR_of hwh.symm)
  have IP : ∀ W, Below w.heap.size w W → Calls Tryz.prog 68 #[.pointer (some ⟨L, 0, none⟩), .int .i64 (i : Int), .string nm] W (PathPost W (cd, at')) := fun W hW => by
    rw [hwh]; exact I_path p L i nm W (HLD.out.below hW) HP.out hi hnm
  clear hwh
  refine calls_hide fun R HR => ?_
  go_enter Tryz.func54, Tryz.ntmps54
  go_wp2_with fail
  refine (IP _ (by (repeat' (first | (with_reducible exact Below.refl _ _) | (with_reducible refine Below.alloc ?_ ?_ _) | (with_reducible refine Below.setCell ?_ ?_ _) | (with_reducible refine Below.drew ?_) | (refine below_hyp (by assumption) ?_ ?_) | go_size)))).mono ?_
  rintro e wA ⟨hA, hq⟩
  have hEA : Below w.heap.size w wA := by (repeat' (first | (with_reducible exact Below.refl _ _) | (with_reducible refine Below.alloc ?_ ?_ _) | (with_reducible refine Below.setCell ?_ ?_ _) | (with_reducible refine Below.drew ?_) | (refine below_hyp (by assumption) ?_ ?_) | go_size))
  have hAs := (hA).size; (try simp only [World.size_alloc, World.size_setCell, World.size_drew] at hAs)
  obtain ⟨hAac, hAad, hAao, hAaf, hAag, hAap, hAaz, hAax, hAay⟩ := bfacts (n := w.heap.size) (k := 1) hA (by go_size) (by go_size); replace hAad := hAad (by decide); replace hAag := hAag (by decide); replace hAax := hAax (by decide); clear hAac hAaf hAaz
  rcases hq with ⟨rfl, v, seen, rfl, hI, pre, rfl⟩ | ⟨hcd, rfl⟩
  · obtain ⟨g, rc, rfl, hgb, hgn, hgm, hgl⟩ := hI.form (by simp)
    have qc : wA.cell? ⟨g, pre.length, none⟩ = some (.int .i64 (at' : Int)) := hI.cell (by simp)
    obtain ⟨n, hn⟩ : ∃ n, n = pre.length := ⟨_, rfl⟩
    have hlen : (pre ++ [at']).length = n + 1 := by rw [hn]; simp
    rw [hlen] at hgn ⊢
    rw [← hn] at qc
    clear hn hlen hI
    have hm63 : n + 1 ≤ 9223372036854775807 := by unfold maxLen at hgm; omega
    go_wp2
    all_goals
      refine bodyPost_ret (v := ?_) ?hrun rfl ?_
      case hrun => (simp only [results, Tryz.results54]; go_simp; first | done | exact rfl)
      exact HR.out _ _ ⟨by rw [RV.out]; rfl, by (repeat' (first | (with_reducible exact Below.refl _ _) | (with_reducible refine Below.alloc ?_ ?_ _) | (with_reducible refine Below.setCell ?_ ?_ _) | (with_reducible refine Below.drew ?_) | (refine below_hyp (by assumption) ?_ ?_) | go_size))⟩
  · have hcd' : ¬ cd = 1 := hcd
    have i1 : (cd != 1) = true := by simpa using hcd'
    have i2 : (cd == 1) = false := by simpa using hcd'
    have RV2 : Hid (whoseR p i nm = (noRef, cd)) := Lib.hid (by rw [RV.out, if_neg hcd'])
    clear hcd hcd' RV
    go_wp2
    all_goals
      refine bodyPost_ret (v := ?_) ?hrun rfl ?_
      case hrun => (simp only [results, Tryz.results54]; go_simp; first | done | exact rfl)
      exact HR.out _ _ ⟨by rw [RV2.out]; rfl, by (repeat' (first | (with_reducible exact Below.refl _ _) | (with_reducible refine Below.alloc ?_ ?_ _) | (with_reducible refine Below.setCell ?_ ?_ _) | (with_reducible refine Below.drew ?_) | (refine below_hyp (by assumption) ?_ ?_) | go_size))⟩

set_option maxRecDepth 100000 in
set_option maxHeartbeats 8000000 in
theorem I_classV (p : DLodPlan) (L : Nat) (r : DLodRef) (c : DClsClass) (w0 : World) (hl : Lodge w0 L p) (hc : clsAt p r = some c) (hrs : r.fName.size ≤ maxLen) (hp : lodOk p = true) :
    ∃ v, ClsV w0 c v ∧ ∀ w, Below w0.heap.size w0 w → Calls Tryz.prog 70 #[.pointer (some ⟨L, 0, none⟩), .agg #[.int .i64 r.fKeeper, .string r.fName]] w fun e w' => e = .returned v ∧ Below w.heap.size w w' := by
  obtain ⟨a, len, cap, bo, ba, bl, n, c0, k1, c2, c3, s1, mo, ma, ml, hn⟩ := id hl
  obtain ⟨a'', len'', cap'', e'', hln, h1, h2, h3⟩ := id s1
  cases e''
  have hlen := lodOk_len hp
  have m1 : len ≤ 9223372036854775807 := by unfold maxLen at h2; omega
  unfold clsAt at hc
  by_cases h0 : ¬ 0 ≤ r.fKeeper
  · rw [if_neg h0] at hc; cases hc
  replace h0 := Decidable.byContradiction h0
  rw [if_pos h0] at hc
  obtain ⟨rk, rn⟩ := r
  simp only at hc h0 hrs
  obtain ⟨i, rfl⟩ : ∃ i : Nat, rk = (i : Int) := ⟨rk.toNat, by omega⟩
  rw [Int.toNat_natCast] at hc
  cases hk : p.fKeepers[i]? with
  | none => rw [hk] at hc; cases hc
  | some k =>
    rw [hk] at hc
    simp only at hc
    by_cases ho : ¬ 0 ≤ ownAt k.fOwns rn
    · rw [if_neg ho] at hc; cases hc
    replace ho := Decidable.byContradiction ho
    rw [if_pos ho] at hc
    obtain ⟨z, hz⟩ : ∃ z : Nat, ownAt k.fOwns rn = (z : Int) := ⟨(ownAt k.fOwns rn).toNat, by omega⟩
    rw [hz, Int.toNat_natCast] at hc
    have hi : i < len := by rw [← hln]; exact (List.getElem?_eq_some_iff.1 hk).1
    obtain ⟨b, off, rfl, hlo, hbl, hr⟩ := h3 (by omega)
    obtain ⟨k', cs, e0, e1, e2, e3⟩ := hr i hi
    obtain rfl : k = k' := Option.some.inj (hk.symm.trans e0)
    obtain ⟨x1, x2, rfl, t1, t2⟩ := e3
    obtain ⟨xa2, xl2, xc2, rfl⟩ := t2.form
    obtain ⟨ya, yl, yc, rfl, yh, yc1, yc2, y3⟩ := id t1
    have hzl : z < yl := by rw [← yh]; exact (List.getElem?_eq_some_iff.1 hc).1
    have my : yl ≤ 9223372036854775807 := by unfold maxLen at yc2; omega
    obtain ⟨b', off', rfl, _, hbl', hr'⟩ := y3 (by omega)
    obtain ⟨c', cs', g0, g1, g2, g3⟩ := hr' z hzl
    obtain rfl : c = c' := Option.some.inj (hc.symm.trans g0)
    obtain ⟨u1, u2, rfl, d1, d2, bx1, bx2⟩ := g3
    obtain ⟨za1, zl1, zc1, rfl⟩ := d1.form
    obtain ⟨za2, zl2, zc2, rfl⟩ := d2.form
    refine ⟨_, ⟨za1, zl1, zc1, za2, zl2, zc2, rfl, d1, d2, bx1, bx2⟩, fun w hW => ?_⟩
    have q1 : w.cell? ⟨b, off + i * 2, none⟩ = some (.slice (some ⟨b', off', none⟩) yl yc) := keep_cell hW (e2 0 _ rfl)
    have p1 : w.cell? ⟨b', off' + z * 4, none⟩ = some (.string c.fName) := keep_cell hW (g2 0 _ rfl)
    have p2 : w.cell? ⟨b', off' + z * 4 + 1, none⟩ = some (.string c.fSuper) := keep_cell hW (g2 1 _ rfl)
    have p3 : w.cell? ⟨b', off' + z * 4 + 2, none⟩ = some (.slice za1 zl1 zc1) := keep_cell hW (g2 2 _ rfl)
    have p4 : w.cell? ⟨b', off' + z * 4 + 3, none⟩ = some (.slice za2 zl2 zc2) := keep_cell hW (g2 3 _ rfl)
    replace hbl := Nat.lt_of_lt_of_le hbl hW.size
    replace hbl' := Nat.lt_of_lt_of_le hbl' hW.size
    have KF : Hid (KeyFit (i : Int) rn) := Lib.hid ⟨WalkArith.wf_i64 (by omega), hrs⟩
    have HF : Hid (planF p ownK (i : Int) rn = some (z : Int)) := Lib.hid (by
      unfold planF
      rw [if_pos (by omega), Int.toNat_natCast, hk]
      show optI (ownAt k.fOwns rn) = _
      rw [hz]; unfold optI; rw [if_neg (by omega)])
    have g1' : (i : Int) < (len : Int) := by omega
    have g2' : (z : Int) < (yl : Int) := by omega
    replace c0 := keep_cell hW c0
    replace k1 := keep_cell hW k1
    replace mo := mo.below hW
    have MO := Lib.hid mo
    have hLl := block_lt_of_cell c0
    clear e0 e1 e2 hr g0 g1 g2 hr' hc hk hz hln yh ho h0 h1 h2 yc1 yc2 h3 y3 hl mo ma ml c2 c3
    refine calls_hide fun R HR => ?_
    go_enter Tryz.func70, Tryz.ntmps70
    go_wp2_with fail
    obtain ⟨wB, hwB⟩ : ∃ wB, wB = (w.alloc (.cells #[.int .i64 (i : Int), .string rn] 35)).alloc (.cells #[.string ⟨#[]⟩, .string ⟨#[]⟩, .slice none 0 0, .slice none 0 0] 69) := ⟨_, rfl⟩
    rw [← hwB]
    have hBB : Below w.heap.size w wB := by rw [hwB]; (repeat' (first | (with_reducible exact Below.refl _ _) | (with_reducible refine Below.alloc ?_ ?_ _) | (with_reducible refine Below.setCell ?_ ?_ _) | (with_reducible refine Below.drew ?_) | (refine below_hyp (by assumption) ?_ ?_) | go_size))
    have LO : (Instr.lookup 76 (.map (some bo)) (.agg #[.int .i64 (i : Int), .string rn]) false).run Tryz.prog wB.drew = .ok (.int .i64 (z : Int)) wB.drew := by
      have := ((MO.out.below hBB).kept (w' := wB.drew) rfl).look KF.out
      rw [HF.out] at this
      exact this
    have K0 : wB.cell? ⟨L, 0, none⟩ = some (.slice (some ⟨b, off, none⟩) len cap) := keep_cell hBB c0
    have K1 : wB.cell? ⟨L, 1, none⟩ = some (.map (some bo)) := keep_cell hBB k1
    have Q1 := keep_cell hBB q1
    have P1 := keep_cell hBB p1
    have P2 := keep_cell hBB p2
    have P3 := keep_cell hBB p3
    have P4 := keep_cell hBB p4
    have r0 : wB.cell? ⟨w.heap.size, 0, none⟩ = some (.int .i64 (i : Int)) := by rw [hwB]; go_simp
    have r1 : wB.cell? ⟨w.heap.size, 1, none⟩ = some (.string rn) := by rw [hwB]; go_simp
    have o0 : wB.cell? ⟨w.heap.size + 1, 0, none⟩ = some (.string ⟨#[]⟩) := by rw [hwB]; go_simp
    have o1 : wB.cell? ⟨w.heap.size + 1, 1, none⟩ = some (.string ⟨#[]⟩) := by rw [hwB]; go_simp
    have o2 : wB.cell? ⟨w.heap.size + 1, 2, none⟩ = some (.slice none 0 0) := by rw [hwB]; go_simp
    have o3 : wB.cell? ⟨w.heap.size + 1, 3, none⟩ = some (.slice none 0 0) := by rw [hwB]; go_simp
    have f0 : wB.frozen? ⟨w.heap.size + 1, 0, none⟩ = false := by rw [hwB]; go_simp
    have f1 : wB.frozen? ⟨w.heap.size + 1, 1, none⟩ = false := by rw [hwB]; go_simp
    have f2 : wB.frozen? ⟨w.heap.size + 1, 2, none⟩ = false := by rw [hwB]; go_simp
    have f3 : wB.frozen? ⟨w.heap.size + 1, 3, none⟩ = false := by rw [hwB]; go_simp
    have hzB : w.heap.size + 1 < wB.heap.size := by rw [hwB]; simp
    clear hwB c0 k1 q1 p1 p2 p3 p4
    go_still_tail 17, (by kernel_rfl)
    go_wp2
    all_goals
      refine bodyPost_ret (v := ?_) ?hrun rfl ?_
      case hrun => (simp only [results, Tryz.results70]; go_simp; first | done | exact rfl)
      exact HR.out _ _ ⟨rfl, by (repeat' (first | (with_reducible exact Below.refl _ _) | (with_reducible refine Below.alloc ?_ ?_ _) | (with_reducible refine Below.setCell ?_ ?_ _) | (with_reducible refine Below.drew ?_) | (refine below_hyp (by assumption) ?_ ?_) | go_size))⟩

theorem I_classO (p : DLodPlan) (L : Nat) (r : DLodRef) (c : DClsClass) (w0 w : World) (hW : Below w0.heap.size w0 w) (hl : Lodge w0 L p) (hc : clsAt p r = some c) (hrs : r.fName.size ≤ maxLen) (hp : lodOk p = true) :
    Calls Tryz.prog 70 #[.pointer (some ⟨L, 0, none⟩), .agg #[.int .i64 r.fKeeper, .string r.fName]] w fun e w' => (∃ v, e = .returned v ∧ ClsV w0 c v) ∧ Below w.heap.size w w' := by
  obtain ⟨v, hv, h⟩ := I_classV p L r c w0 hl hc hrs hp
  exact (h w hW).mono fun e w' ⟨he, hb⟩ => ⟨⟨v, he, hv⟩, hb⟩

theorem I_class (p : DLodPlan) (L : Nat) (r : DLodRef) (c : DClsClass) (w : World) (hl : Lodge w L p) (hc : clsAt p r = some c) (hrs : r.fName.size ≤ maxLen) (hp : lodOk p = true) :
    Calls Tryz.prog 70 #[.pointer (some ⟨L, 0, none⟩), .agg #[.int .i64 r.fKeeper, .string r.fName]] w fun e w' => (∃ v, e = .returned v ∧ ClsV w c v) ∧ Below w.heap.size w w' :=
  I_classO p L r c w w (Below.refl _ _) hl hc hrs hp

end Go.Proofs.YtmmlhnjmjmbfpaaGreat
