

/-
  Plain words on what can be laid out: methods that stand in another one's place are like it, no field stands twice. No program in sight. No condition.
  Then: The walk of the reference's l4Shape. Condition: the data can be read, and the keepers are ok.
-/
import Derived.Test.YtejfecmmcghpmaaGreatChain
import Derived.Test.YtejfecmmcghpmaaGreatSig
import Derived.Test.YtejfecmmcghpmaaGreatClsS
namespace Go.Proofs.YtejfecmmcghpmaaGreat
set_option linter.unusedSimpArgs false
set_option linter.unusedVariables false
open Go.RowKit

def shapeP (p : DLodPlan) (i j : Nat) (m : DClsMethod) : Bool := each (fun _ k => agreeP p i j k) m.fArgs && agreeP p i j m.fRet
def methodFits (p : DLodPlan) (i j : Nat) (u : DClsClass) (m : DClsMethod) : Bool := if methodAt u.fMethods m.fName < 0 then true else (match u.fMethods[(methodAt u.fMethods m.fName).toNat]? with | some n => sameSig m n && shapeP p i j m | none => true)
def fieldFits (u : DClsClass) (f : DClsField) : Bool := decide (fieldAt u.fFields f.fName < 0)
def pairFits (p : DLodPlan) (i j : Nat) (c u : DClsClass) : Bool := each (fun _ m => methodFits p i j u m) c.fMethods && each (fun _ f => fieldFits u f) c.fFields
/-- a class and one above it go together -/
def pairOk (p : DLodPlan) (a b : DLodRef) : Bool := match clsAt p a, clsAt p b with | some c, some u => pairFits p a.fKeeper.toNat b.fKeeper.toNat c u | _, _ => true
def overL (p : DLodPlan) (a : DLodRef) (k : Nat) (b : DLodRef) : Bool := if k = 0 then true else pairOk p a b
/-- .. with all above it -/
def laidAt (p : DLodPlan) (rs : List DLodRef) (k : Nat) (a : DLodRef) : Bool := each (overL p a) (rs.drop k)
def laidL (p : DLodPlan) (rs : List DLodRef) : Bool := each (laidAt p rs) rs
def lnkLaid (p : DLodPlan) (r : DLodRef) : Bool := !(lodChain p r).isEmpty && laidL p (lodChain p r)

theorem clsAt_parts {p : DLodPlan} {r : DLodRef} {c : DClsClass} (h : clsAt p r = some c) : 0 ≤ r.fKeeper ∧ ∃ k, p.fKeepers[r.fKeeper.toNat]? = some k ∧ 0 ≤ ownAt k.fOwns r.fName ∧ k.fOwns[(ownAt k.fOwns r.fName).toNat]? = some c := by
  unfold clsAt at h
  by_cases h0 : 0 ≤ r.fKeeper
  · rw [if_pos h0] at h
    cases hk : p.fKeepers[r.fKeeper.toNat]? with
    | none => rw [hk] at h; cases h
    | some k =>
      rw [hk] at h
      simp only at h
      by_cases ho : 0 ≤ ownAt k.fOwns r.fName
      · rw [if_pos ho] at h
        exact ⟨h0, k, rfl, ho, h⟩
      · rw [if_neg ho] at h; cases h
  · rw [if_neg h0] at h; cases h
theorem clsAt_ok {p : DLodPlan} (hp : lodOk p = true) {r : DLodRef} {c : DClsClass} (h : clsAt p r = some c) : clsOk c = true := by
  obtain ⟨_, k, hk, _, hc⟩ := clsAt_parts h
  obtain ⟨_, _, ho, _⟩ := keeperOk_parts (lodOk_keeper hp hk)
  have := each_iff.1 ho _ c hc
  simp only [ownIn, Bool.and_eq_true] at this
  exact this.1
theorem namOk_size {n : ByteArray} (h : namOk n = true) : n.size ≤ maxLen := by
  unfold namOk at h
  simp only [Bool.and_eq_true, decide_eq_true_eq] at h
  have := h.1.2
  unfold maxLen; omega

/-- all of a chain are there -/
theorem chainF_there {p : DLodPlan} (h : lodOk p = true) : ∀ (f : Nat) (r : DLodRef) (rs : List DLodRef), There p r → chainF p f r = some rs → ∀ x ∈ rs, There p x
  | 0, _, _, _, e => by simp [chainF] at e
  | f + 1, r, rs, ht, e => by
    obtain ⟨c, hc⟩ := ht.cls
    unfold chainF at e
    rw [hc] at e
    simp only at e
    by_cases hs : c.fSuper.toList.isEmpty = true
    · rw [if_pos hs] at e
      obtain rfl := (Option.some.inj e).symm
      intro x hx
      rw [List.mem_singleton] at hx
      subst hx; exact ht
    · rw [if_neg hs] at e
      by_cases hw : (whoseR p r.fKeeper.toNat c.fSuper).2 = 1
      · rw [if_pos hw] at e
        cases e2 : chainF p f (whoseR p r.fKeeper.toNat c.fSuper).1 with
        | none => rw [e2] at e; simp at e
        | some qs =>
          rw [e2] at e
          simp only [Option.map_some, Option.some.injEq] at e
          subst e
          obtain ⟨j, hj1, hj2, hj3, hj4⟩ := id ht
          obtain ⟨j', he, h1, h2⟩ := whoseR_there h (i := r.fKeeper.toNat) (nm := c.fSuper) (by omega) hw
          have hcs : c.fSuper.size ≤ maxLen := by
            have hk : clsOk c = true := clsAt_ok h hc
            unfold clsOk at hk
            simp only [Bool.and_eq_true, Bool.or_eq_true] at hk
            rcases hk.1.1.1.1.2 with h5 | h5
            · exact absurd h5 hs
            · exact namOk_size h5
          intro x hx
          rcases List.mem_cons.1 hx with rfl | hx
          · exact ht
          · refine chainF_there h f _ qs ?_ e2 x hx
            rw [he]
            exact ⟨j', rfl, h1, h2, hcs⟩
      · rw [if_neg hw] at e; cases e

theorem shapeP_stop {p : DLodPlan} {i j : Nat} {m : DClsMethod} (h : each (fun _ k => agreeP p i j k) m.fArgs = false) : shapeP p i j m = false := by simp [shapeP, h]

set_option maxRecDepth 100000 in
set_option maxHeartbeats 8000000 in
theorem S_l4Shape (p : DLodPlan) (i j : Nat) (m : DClsMethod) (v v1 : Value) (a2 a3 : Option Addr) (l2 l3 k2 k3 : Nat) (w : World) (sp : Sl 2 rLodKeeper 0 w v p.fKeepers) (hp : lodOk p = true) (hi : i < p.fKeepers.length) (hj : j < p.fKeepers.length) (s1 : Sl 2 rKndKind 0 w v1 m.fArgs) (hn : m.fRet.fName.size ≤ maxLen) :
    Calls Tryz.prog 99 #[.agg #[v], .int .i64 (i : Int), .int .i64 (j : Int), .agg #[.string m.fName, v1, .int .i64 m.fRet.fKind, .string m.fRet.fName, .int .i64 m.fLocals, .int .i64 m.fStack, .slice a2 l2 k2, .slice a3 l3 k3]] w fun e w' => e = .returned (.bool (shapeP p i j m)) ∧ Below w.heap.size w w' := by
  obtain ⟨pa, plen, pcap, rfl⟩ := sp.form
  obtain ⟨a, len, cap, rfl, hl, h1, h2, h3⟩ := id s1
  have m1 : len ≤ 9223372036854775807 := by unfold maxLen at h2; omega
  have HL := Lib.hid hl
  have HS := Lib.hid sp
  have HP := Lib.hid hp
  clear h2 hl h1 sp hp
  obtain ⟨z, hz⟩ : ∃ z, z = shapeP p i j m := ⟨_, rfl⟩
  have HZ := Lib.hid hz
  rw [← hz]
  clear hz
  have AG : ∀ (W : World) (kd : DKndKind), kd.fName.size ≤ maxLen → Below w.heap.size w W → Calls Tryz.prog 54 #[.agg #[.slice pa plen pcap], .int .i64 (i : Int), .int .i64 (j : Int), .agg #[.int .i64 kd.fKind, .string kd.fName]] W fun e w' => e = .returned (.bool (agreeP p i j kd)) ∧ Below W.heap.size W w' := fun W kd hk hW => S_l4Agree p _ i j kd W (HS.out.stays rLodKeeper_good (Keeps.of_below hW)) HP.out hi hj hk
  refine calls_hide fun R HR => ?_
  go_enter Tryz.func99, Tryz.ntmps99
  go_wp2_with fail
  go_loopw [9] (fun zi wr => ∃ k : Nat, k ≤ len ∧ zi = .int .i64 k ∧ EachTo (fun _ k => agreeP p i j k) m.fArgs k = true ∧ Below w.heap.size w wr ∧ wr.cell? ⟨w.heap.size, 0, none⟩ = some (.slice pa plen pcap) ∧ wr.cell? ⟨w.heap.size + 1, 1, none⟩ = some (.slice a len cap) ∧ wr.cell? ⟨w.heap.size + 1, 2, none⟩ = some (.int .i64 m.fRet.fKind) ∧ wr.cell? ⟨w.heap.size + 1, 3, none⟩ = some (.string m.fRet.fName)) (fun zi _ => len - (intOf zi).toNat)
  case atStart => exact ⟨0, Nat.zero_le _, rfl, rfl, by (repeat' (first | (with_reducible exact Below.refl _ _) | (with_reducible refine Below.alloc ?_ ?_ _) | (with_reducible refine Below.setCell ?_ ?_ _) | (with_reducible refine Below.drew ?_) | (refine below_hyp (by assumption) ?_ ?_) | go_size)), by go_simp, by go_simp, by go_simp, by go_simp⟩
  case round =>
    obtain ⟨k, hk, rfl, ha, hb, c0, c1, c2, c3⟩ := hrel
    have HA := Lib.hid ha
    clear ha
    have hbx := hb.size
    have hbl := block_lt_of_cell c0
    have hbl2 := block_lt_of_cell c1
    by_cases hlt : k < len
    · go_wp2_with fail
      obtain ⟨b, off, rfl, _, _, hr⟩ := h3.stays rKndKind_good (Keeps.of_below hb) (by omega)
      obtain ⟨⟨xk, xn⟩, cs, e0, _, e1, e4⟩ := hr k hlt
      obtain ⟨rfl, bx⟩ := e4
      have q1 := In.cell (show wr.cell? ⟨b, off + k * 2, none⟩ = some (.int .i64 xk) from e1 0 _ rfl)
      have q2 := In.cell (show wr.cell? ⟨b, off + k * 2 + 1, none⟩ = some (.string xn) from e1 1 _ rfl)
      have y0 := In.cell c0
      have y1 := In.cell c1
      have C0 := Lib.hid c0
      have C1 := Lib.hid c1
      have C2 := Lib.hid c2
      have C3 := Lib.hid c3
      have E0 := Lib.hid e0
      obtain ⟨q, hq⟩ : ∃ q, q = agreeP p i j ⟨xk, xn⟩ := ⟨_, rfl⟩
      have CA : ∀ y : In wr, Calls Tryz.prog 54 #[.agg #[.slice pa plen pcap], .int .i64 (i : Int), .int .i64 (j : Int), .agg #[.int .i64 xk, .string xn]] y.x fun e w' => e = .returned (.bool q) ∧ Below y.x.heap.size y.x w' := fun y => by
        rw [hq]; exact AG y.x ⟨xk, xn⟩ bx (hb.trans (y.h.mono hbx))
      have HQ := Lib.hid hq
      clear e0 e1 hr c0 c1 c2 c3 hq
      cases q
      · have RV : Hid (z = false) := Lib.hid (by rw [HZ.out]; exact shapeP_stop (each_stop E0.out HQ.out.symm))
        refine wp_region_in (by kernel_rfl) (by kernel_rfl) ?_
        repeat (go_big_quiet_step (first | (go_at_call 54; exact Calls.ins (CA _))))
        refine wpQuiet_nil ?_
        rintro wZ ⟨⟨wE, hwE⟩, hq⟩
        obtain rfl : wE = wZ := hq.symm
        clear hq
        have hwEs := hwE.size
        (try dsimp only)
        have hEE := hb.trans (hwE.mono hbx)
        go_wp2
        all_goals (try go_returns)
        all_goals exact HR.out _ _ ⟨by first | (rw [RV.out]; done) | (rw [RV.out]; rfl), hEE⟩
      · skip
        refine wp_region_in (by kernel_rfl) (by kernel_rfl) ?_
        repeat (go_big_quiet_step (first | (go_at_call 54; exact Calls.ins (CA _))))
        refine wpQuiet_nil ?_
        rintro wZ ⟨⟨wE, hwE⟩, hq⟩
        obtain rfl : wE = wZ := hq.symm
        clear hq
        have hwEs := hwE.size
        (try dsimp only)
        have hEE := hb.trans (hwE.mono hbx)
        go_wp2
        go_roundw
        case measure => simp [intOf]; omega
        case rel => exact ⟨k + 1, by omega, by go_num, EachTo.step HA.out E0.out HQ.out.symm, hEE, In.cell C0.out ⟨wE, hwE⟩, In.cell C1.out ⟨wE, hwE⟩, In.cell C2.out ⟨wE, hwE⟩, In.cell C3.out ⟨wE, hwE⟩⟩
    · obtain rfl : k = len := by omega
      have RV : Hid (z = agreeP p i j m.fRet) := Lib.hid (by rw [HZ.out]; unfold shapeP; rw [each_done HA.out HL.out]; rfl)
      go_wp2_with fail
      refine (AG _ m.fRet hn hb).mono ?_
      rintro _ wE ⟨rfl, hE⟩
      go_wp2
      all_goals (try go_returns)
      all_goals exact HR.out _ _ ⟨by first | (rw [RV.out]; done) | (rw [RV.out]; rfl), hb.trans (hE.mono hbx)⟩

end Go.Proofs.YtejfecmmcghpmaaGreat
