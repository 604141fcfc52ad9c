

/-
  The walks of the reference's l4Over, l4Laid, LnkLaid. Condition: the data can be read, and the keepers are ok.
  Then: The walks of the reference's l4Laid, LnkLaid. Condition: the data can be read, and the keepers are ok.
-/
import Derived.Test.YtejfecmmcghpmaaGreatLaidP
import Derived.Test.YtejfecmmcghpmaaGreatUnderS
import Derived.Deep.CutRange
namespace Go.Proofs.YtejfecmmcghpmaaGreat
set_option linter.unusedSimpArgs false
set_option linter.unusedVariables false
open Go.RowKit

/-- a class in a block of its own -/
def ClsAt (w : World) (B : Nat) (c : DClsClass) : Prop := ∃ a1 l1 c1 a2 l2 c2, w.cell? ⟨B, 0, none⟩ = some (.string c.fName) ∧ w.cell? ⟨B, 1, none⟩ = some (.string c.fSuper) ∧ w.cell? ⟨B, 2, none⟩ = some (.slice a1 l1 c1) ∧ w.cell? ⟨B, 3, none⟩ = some (.slice a2 l2 c2) ∧ Sl 3 rClsField 0 w (.slice a1 l1 c1) c.fFields ∧ Sl 8 rClsMethod 0 w (.slice a2 l2 c2) c.fMethods
theorem ClsAt.below {w w' : World} {B : Nat} {c : DClsClass} (h : ClsAt w B c) (hb : Below w.heap.size w w') : ClsAt w' B c := by
  obtain ⟨a1, l1, c1, a2, l2, c2, h0, h1, h2, h3, h4, h5⟩ := h
  exact ⟨a1, l1, c1, a2, l2, c2, keep_cell hb h0, keep_cell hb h1, keep_cell hb h2, keep_cell hb h3, h4.stays rClsField_good (Keeps.of_below hb), h5.stays rClsMethod_good (Keeps.of_below hb)⟩

theorem al0 {w x : World} {o : Obj} (h : Below w.heap.size w x) : Below w.heap.size w (x.alloc o) := h.alloc h.size o

theorem dr0 {w x : World} (h : Below w.drew.heap.size w.drew x) : Below w.heap.size w x := ((Below.refl _ _).drew).trans h
theorem st0 {w x : World} (h : Below w.heap.size w x) (i : Nat) (v : Value) : Below w.heap.size w (x.setCell ⟨w.heap.size, i, none⟩ v) := h.setCell (Nat.le_refl _) v
theorem dr1 {w x : World} {o : Obj} (h : Below (w.drew.alloc o).heap.size (w.drew.alloc o) x) : Below w.heap.size w x := (((Below.refl _ _).drew).alloc (Nat.le_refl _) o).trans (h.mono (by simp))

theorem fresh4 {w w' : World} {t : TypeId} {u0 u1 u2 u3 : Value} (h : Below (w.drew.alloc (.cells #[u0, u1, u2, u3] t)).heap.size (w.drew.alloc (.cells #[u0, u1, u2, u3] t)) w') :
    w'.cell? ⟨w.heap.size, 0, none⟩ = some u0 ∧ w'.cell? ⟨w.heap.size, 1, none⟩ = some u1 ∧ w'.cell? ⟨w.heap.size, 2, none⟩ = some u2 ∧ w'.cell? ⟨w.heap.size, 3, none⟩ = some u3 ∧ w'.frozen? ⟨w.heap.size, 0, none⟩ = false ∧ w'.frozen? ⟨w.heap.size, 1, none⟩ = false ∧ w'.frozen? ⟨w.heap.size, 2, none⟩ = false ∧ w'.frozen? ⟨w.heap.size, 3, none⟩ = false ∧ w.heap.size < w'.heap.size := by
  have hz := h.size
  simp only [World.size_alloc, World.size_drew] at hz
  refine ⟨?_, ?_, ?_, ?_, ?_, ?_, ?_, ?_, by omega⟩
  all_goals first
    | exact (h.cell (by simp)).trans (by go_simp)
    | exact (h.frozen (by simp)).trans (by go_simp)

theorem overL_stop {p : DLodPlan} {r0 rk : DLodRef} {rs : List DLodRef} {k : Nat} (hk : 1 ≤ k) (e : rs[k]? = some rk) (h : pairOk p r0 rk = false) : each (overL p r0) rs = false :=
  each_stop e (by unfold overL; rw [if_neg (by omega)]; exact h)
theorem pairOk_cls {p : DLodPlan} {i j : Nat} {xn yn : ByteArray} {c u : DClsClass} (hc : clsAt p ⟨(i : Int), xn⟩ = some c) (hu : clsAt p ⟨(j : Int), yn⟩ = some u) : pairOk p ⟨(i : Int), xn⟩ ⟨(j : Int), yn⟩ = pairFits p i j c u := by
  unfold pairOk
  rw [hc, hu]; rfl
theorem pairFits_m {p : DLodPlan} {i j : Nat} {c u : DClsClass} (h : each (fun _ m => methodFits p i j u m) c.fMethods = false) : pairFits p i j c u = false := by simp [pairFits, h]
theorem pairFits_f {p : DLodPlan} {i j : Nat} {c u : DClsClass} (h : each (fun _ f => fieldFits u f) c.fFields = false) : pairFits p i j c u = false := by simp [pairFits, h]
theorem pairFits_ok {p : DLodPlan} {i j : Nat} {c u : DClsClass} (h : each (fun _ m => methodFits p i j u m) c.fMethods = true) (h' : each (fun _ f => fieldFits u f) c.fFields = true) : pairFits p i j c u = true := by simp [pairFits, h, h']
theorem methodFits_none {p : DLodPlan} {i j : Nat} {u : DClsClass} {m : DClsMethod} (h : methodAt u.fMethods m.fName < 0) : methodFits p i j u m = true := by unfold methodFits; rw [if_pos h]
theorem methodFits_some {p : DLodPlan} {i j n : Nat} {u : DClsClass} {m x : DClsMethod} (h : methodAt u.fMethods m.fName = (n : Int)) (e : u.fMethods[n]? = some x) : methodFits p i j u m = (sameSig m x && shapeP p i j m) := by
  unfold methodFits
  rw [h, if_neg (by omega), Int.toNat_natCast, e]
theorem methodAt_row {xs : List DClsMethod} {nm : ByteArray} {n : Nat} (h : methodAt xs nm = (n : Int)) : ∃ x, xs[n]? = some x := by
  rcases firstAt_cases (fun f : DClsMethod => sameN f.fName nm) xs with ⟨h1, _⟩ | ⟨k, x, h1, h2, _⟩
  · unfold methodAt at h; rw [h1] at h; omega
  · unfold methodAt at h
    rw [h1] at h
    obtain rfl : k = n := by omega
    exact ⟨x, h2⟩

set_option maxRecDepth 100000 in
set_option maxHeartbeats 40000000 in
theorem S_l4Over (p : DLodPlan) (v vc : Value) (r0 : DLodRef) (rs : List DLodRef) (w : World) (sp : Sl 2 rLodKeeper 0 w v p.fKeepers) (hp : lodOk p = true) (sc : Sl 2 rLodRef 0 w vc rs) (h0 : rs[0]? = some r0) (ht : ∀ x ∈ rs, There p x) :
    Calls Tryz.prog 80 #[.agg #[v], vc] w fun e w' => e = .returned (.bool (each (overL p r0) rs)) ∧ Below w.heap.size w w' := by
  obtain ⟨pa, plen, pcap, rfl⟩ := sp.form
  obtain ⟨a, len, cap, rfl, hl, h1, h2, h3⟩ := id sc
  have m1 : len ≤ 9223372036854775807 := by unfold maxLen at h2; omega
  have hpos : 0 < len := by rw [← hl]; exact (List.getElem?_eq_some_iff.1 h0).1
  have HL := Lib.hid hl
  have HS := Lib.hid sp
  have HP := Lib.hid hp
  have HT := Lib.hid ht
  obtain ⟨b, off, rfl, _, hbl, hr⟩ := h3 hpos
  obtain ⟨⟨xk, xn⟩, cs, e0, _, e1, e4⟩ := hr 0 hpos
  obtain ⟨rfl, bx⟩ := e4
  have q1 : w.cell? ⟨b, off, none⟩ = some (.int .i64 xk) := by have := e1 0 _ rfl; simpa using this
  have q2 : w.cell? ⟨b, off + 1, none⟩ = some (.string xn) := by have := e1 1 _ rfl; simpa using this
  obtain rfl : (⟨xk, xn⟩ : DLodRef) = r0 := by have := h0.symm.trans e0; simpa using this.symm
  obtain ⟨xi, hxk, hxi, _, _⟩ := ht _ (List.mem_of_getElem? h0)
  dsimp only at hxk bx
  subst hxk
  have H0 := Lib.hid h0
  have HRW := Lib.hid hr
  clear e0 e1 h2 hl h1 sp hp ht h0 hr h3
  obtain ⟨z, hz⟩ : ∃ z, z = each (overL p ⟨(xi : Int), xn⟩) rs := ⟨_, rfl⟩
  have HZ := Lib.hid hz
  rw [← hz]
  clear hz
  refine calls_hide fun R HR => ?_
  go_enter Tryz.func80, Tryz.ntmps80
  go_upto_region 1 with fail
  go_cut [5] from 11 to 15 (fun v5 wx => ∃ (B : Nat) (c : DClsClass), v5 = .pointer (some ⟨B, 0, none⟩) ∧ clsAt p ⟨(xi : Int), xn⟩ = some c ∧ Below w.heap.size w wx ∧ wx.cell? ⟨w.heap.size, 0, none⟩ = some (.slice pa plen pcap) ∧ ClsAt wx B c)
  case first =>
    obtain ⟨wS, hwS⟩ : ∃ wS, wS = w.alloc (.cells #[.slice pa plen pcap] 33) := ⟨_, rfl⟩
    rw [← hwS]
    have hES : Below w.heap.size w wS := by rw [hwS]; (repeat' (first | (with_reducible exact Below.refl _ _) | (with_reducible refine Below.alloc ?_ ?_ _) | (with_reducible refine Below.setCell ?_ ?_ _) | (with_reducible refine Below.drew ?_) | (refine below_hyp (by assumption) ?_ ?_) | go_size))
    have hzS := hES.size
    have k0' : wS.cell? ⟨w.heap.size, 0, none⟩ = some (.slice pa plen pcap) := by rw [hwS]; go_simp
    have k0 : ∀ W, Below wS.heap.size wS W → W.cell? ⟨w.heap.size, 0, none⟩ = some (.slice pa plen pcap) := fun W hW => (hW.cell (block_lt_of_cell k0')).trans k0'
    have k1 : ∀ W, Below wS.heap.size wS W → W.cell? ⟨b, off, none⟩ = some (.int .i64 (xi : Int)) := fun W hW => (hW.cell (block_lt_of_cell (keep_cell hES q1))).trans (keep_cell hES q1)
    have k2 : ∀ W, Below wS.heap.size wS W → W.cell? ⟨b, off + 1, none⟩ = some (.string xn) := fun W hW => (hW.cell (block_lt_of_cell (keep_cell hES q2))).trans (keep_cell hES q2)
    obtain ⟨c, hc⟩ := (HT.out ⟨(xi : Int), xn⟩ (List.mem_of_getElem? H0.out)).cls
    have HC := Lib.hid hc
    have K0 := Lib.hid k0
    have SS := Lib.hid (HS.out.stays rLodKeeper_good (Keeps.of_below hES))
    clear hwS hc k0'
    have keepA : ∀ x x' : World, Below x.heap.size x x' → Below wS.heap.size wS x → Below wS.heap.size wS x' := fun x x' hb e => keep_below hb e (Nat.le_refl _)
    go_region_held3 (fun x => Below wS.heap.size wS x) ((first | exact (Below.refl _ _).drew | exact keepA _ _ (by assumption) (by assumption) | exact al0 (by assumption) | ((repeat (with_reducible refine st0 ?_ _ _)); assumption) | exact al0 (dr0 (by assumption)) | (repeat' (first | (with_reducible exact Below.refl _ _) | (with_reducible refine Below.alloc ?_ ?_ _) | (with_reducible refine Below.setCell ?_ ?_ _) | (with_reducible refine Below.drew ?_) | (refine below_hyp (by assumption) ?_ ?_) | go_size)))) (first | (go_at_call 67; refine (S_l3ClassO p _ ⟨(xi : Int), xn⟩ c wS _ (by assumption) SS.out HC.out bx).mono ?_; rintro _ _ ⟨⟨v, rfl, a1, l1, c1, a2, l2, c2, rfl, d1, d2, by1, by2⟩, hcall⟩; have hcs := hcall.size; (try simp only [World.size_alloc, World.size_drew, World.size_setCell] at hcs); (try (have hfr := fresh4 hcall; obtain ⟨z0, z1, z2, z3, f0, f1, f2, f3, zl⟩ := hfr))))
    all_goals
      clear k0 k1 k2 keepA
      rename_i hF
      go_wp2_with fail
      go_meet
      case rel =>
        exact ⟨_, c, rfl, HC.out, hES.trans (hF.mono hzS), K0.out _ hF, a1, l1, c1, a2, l2, c2, by go_simp, by go_simp, by go_simp, by go_simp, d1.stays rClsField_good (Keeps.of_below hF), d2.stays rClsMethod_good (Keeps.of_below hF)⟩
  case rest =>
    obtain ⟨B, c, rfl, hc, hE, c0, hcB⟩ := hcut
    obtain ⟨wO, hwO⟩ : ∃ x, x = wc := ⟨_, rfl⟩
    subst hwO
    have HC := Lib.hid hc
    have HE := Lib.hid hE
    have HB := Lib.hid hcB
    have hEs := hE.size
    have hbE := Nat.lt_of_lt_of_le hbl hEs
    replace q1 := keep_cell hE q1
    clear hc hcB hE
    go_wp2_with fail
    go_loopw [6] (fun zi wr => ∃ k : Nat, 1 ≤ k ∧ k ≤ len ∧ zi = .int .i64 k ∧ EachTo (overL p ⟨(xi : Int), xn⟩) rs k = true ∧ Below wO.heap.size wO wr) (fun zi _ => len - (intOf zi).toNat)
    case atStart => exact ⟨1, Nat.le_refl _, hpos, rfl, by simp [EachTo, H0.out, overL], Below.refl _ _⟩
    case round =>
      obtain ⟨k, hk1, hk, rfl, ha, hb⟩ := hrel
      have HA := Lib.hid ha
      clear ha
      have hbx := hb.size
      by_cases hlt : k < len
      rotate_left
      · obtain rfl : k = len := by omega
        have RV : Hid (z = true) := Lib.hid (by rw [HZ.out]; exact each_done HA.out HL.out)
        go_wp2
        all_goals (try go_returns)
        all_goals exact HR.out _ _ ⟨by rw [RV.out]; rfl, HE.out.trans (hb.mono hEs)⟩
      obtain ⟨⟨yk, yn⟩, cs', e0, _, e1, e4⟩ := HRW.out k hlt
      obtain ⟨rfl, by0⟩ := e4
      have p1 : w.cell? ⟨b, off + k * 2, none⟩ = some (.int .i64 yk) := e1 0 _ rfl
      have p2 : w.cell? ⟨b, off + k * 2 + 1, none⟩ = some (.string yn) := e1 1 _ rfl
      replace p1 := keep_cell hb (keep_cell HE.out p1)
      replace p2 := keep_cell hb (keep_cell HE.out p2)
      have P1 := Lib.hid p1
      have Q1 := Lib.hid (keep_cell hb q1)
      have C0 := Lib.hid (keep_cell hb c0)
      obtain ⟨yi, hyk, hyi, _, _⟩ := HT.out _ (List.mem_of_getElem? e0)
      dsimp only at hyk by0
      subst hyk
      have E0 := Lib.hid e0
      clear e0 e1
      go_upto_region 5 with fail
      go_cut [7] from 16 to 95 (fun v7 wx => ∃ (D : Nat) (u : DClsClass), v7 = .pointer (some ⟨D, 0, none⟩) ∧ clsAt p ⟨(yi : Int), yn⟩ = some u ∧ Below wr.heap.size wr wx ∧ ClsAt wx D u)
      case first =>
        have k0 : ∀ W, Below wr.heap.size wr W → W.cell? ⟨w.heap.size, 0, none⟩ = some (.slice pa plen pcap) := fun W hW => keep_cell hW C0.out
        have k1 : ∀ W, Below wr.heap.size wr W → W.cell? ⟨b, off + k * 2, none⟩ = some (.int .i64 (yi : Int)) := fun W hW => keep_cell hW p1
        have k2 : ∀ W, Below wr.heap.size wr W → W.cell? ⟨b, off + k * 2 + 1, none⟩ = some (.string yn) := fun W hW => keep_cell hW p2
        obtain ⟨u, hu⟩ := (HT.out ⟨(yi : Int), yn⟩ (List.mem_of_getElem? E0.out)).cls
        have HU := Lib.hid hu
        have SS := Lib.hid ((HS.out.stays rLodKeeper_good (Keeps.of_below HE.out)).stays rLodKeeper_good (Keeps.of_below hb))
        have g2 : (k : Int) < (len : Int) := by omega
        have g3 : (0 : Int) ≤ (k : Int) := by omega
        clear hu q1 p1 p2 c0
        have keepA : ∀ x x' : World, Below x.heap.size x x' → Below wr.heap.size wr x → Below wr.heap.size wr x' := fun x x' hb e => keep_below hb e (Nat.le_refl _)
        go_region_held3 (fun x => Below wr.heap.size wr x) ((first | exact (Below.refl _ _).drew | exact keepA _ _ (by assumption) (by assumption) | exact al0 (by assumption) | ((repeat (with_reducible refine st0 ?_ _ _)); assumption) | exact al0 (dr0 (by assumption)) | (repeat' (first | (with_reducible exact Below.refl _ _) | (with_reducible refine Below.alloc ?_ ?_ _) | (with_reducible refine Below.setCell ?_ ?_ _) | (with_reducible refine Below.drew ?_) | (refine below_hyp (by assumption) ?_ ?_) | go_size)))) (first | (go_at_call 67; refine (S_l3ClassO p _ ⟨(yi : Int), yn⟩ u wr _ (by assumption) SS.out HU.out by0).mono ?_; rintro _ _ ⟨⟨v, rfl, a1, l1, c1, a2, l2, c2, rfl, d1, d2, by1, by2⟩, hcall⟩; have hcs := hcall.size; (try simp only [World.size_alloc, World.size_drew, World.size_setCell] at hcs); (try (have hfr := fresh4 hcall; obtain ⟨z0, z1, z2, z3, f0, f1, f2, f3, zl⟩ := hfr))))
        all_goals
          clear k0 k1 k2 keepA
          rename_i hF
          go_wp2_with fail
          go_meet
          case rel =>
            exact ⟨_, u, rfl, HU.out, hF, a1, l1, c1, a2, l2, c2, by go_simp, by go_simp, by go_simp, by go_simp, d1.stays rClsField_good (Keeps.of_below hF), d2.stays rClsMethod_good (Keeps.of_below hF)⟩
      case rest =>
        obtain ⟨D, u, rfl, hu, hF, huD⟩ := hcut
        obtain ⟨wx, hwx⟩ : ∃ x, x = wc := ⟨_, rfl⟩
        subst hwx
        have hbF := hb.trans (hF.mono hbx)
        have hFs := hF.size
        have BX := Lib.hid (HB.out.below hbF)
        have DX := Lib.hid huD
        have PX := Lib.hid (keep_cell hF C0.out)
        have QX := Lib.hid (keep_cell hF Q1.out)
        have RX := Lib.hid (keep_cell hF P1.out)
        have SX := Lib.hid ((HS.out.stays rLodKeeper_good (Keeps.of_below HE.out)).stays rLodKeeper_good (Keeps.of_below hbF))
        have PF : Hid (pairOk p ⟨(xi : Int), xn⟩ ⟨(yi : Int), yn⟩ = pairFits p xi yi c u) := Lib.hid (pairOk_cls HC.out hu)
        have HF := Lib.hid hF
        have HEX := Lib.hid (HE.out.trans (hbF.mono hEs))
        clear hu huD p1 p2 q1 c0 hF
        go_wp2_with fail
        go_loopw [8] (fun zj wq => ∃ j : Nat, j ≤ c.fMethods.length ∧ zj = .int .i64 j ∧ EachTo (fun _ m => methodFits p xi yi u m) c.fMethods j = true ∧ Below wx.heap.size wx wq) (fun zj _ => c.fMethods.length - (intOf zj).toNat)
        case atStart => exact ⟨0, Nat.zero_le _, rfl, rfl, Below.refl _ _⟩
        case round =>
          obtain ⟨j, hj, rfl, ha2, hb2⟩ := hrel
          obtain ⟨wq, hwq⟩ : ∃ x, x = wr := ⟨_, rfl⟩
          subst hwq
          have HA2 := Lib.hid ha2
          clear ha2
          have hbx2 := hb2.size
          obtain ⟨ca1, cl1, cc1, ca2, cl2, cc2, n0, n1, n2, n3, sf, sm⟩ := BX.out.below hb2
          obtain ⟨da1, dl1, dc1, da2, dl2, dc2, o0, o1, o2, o3, tf, tm⟩ := DX.out.below hb2
          clear n0 n1 o0 o1
          have hml := sm.len.1
          have hmc := sm.len.2
          have hmm : cl2 ≤ 9223372036854775807 := by unfold maxLen at hmc; omega
          have hdc := tm.len.2
          have hdm : dl2 ≤ 9223372036854775807 := by unfold maxLen at hdc; omega
          by_cases hlt2 : j < c.fMethods.length
          rotate_left
          · obtain rfl : j = c.fMethods.length := by omega
            have HM : Hid (each (fun _ m => methodFits p xi yi u m) c.fMethods = true) := Lib.hid (each_done HA2.out rfl)
            have hj2 : ¬ (c.fMethods.length < cl2) := by omega
            clear HA2 sf sm tf tm hml hmc hmm hdc hdm n2 o2
            go_wp2_with fail
            clear n3 o3 hj2
            go_loopw [10] (fun zi ws => ∃ i : Nat, i ≤ c.fFields.length ∧ zi = .int .i64 i ∧ EachTo (fun _ f => fieldFits u f) c.fFields i = true ∧ Below wq.heap.size wq ws) (fun zi _ => c.fFields.length - (intOf zi).toNat)
            case atStart => exact ⟨0, Nat.zero_le _, rfl, rfl, Below.refl _ _⟩
            case round =>
              obtain ⟨i, hi, rfl, ha3, hb3⟩ := hrel
              obtain ⟨ws, hws⟩ : ∃ x, x = wr := ⟨_, rfl⟩
              subst hws
              have HA3 := Lib.hid ha3
              clear ha3
              have hbx3 := hb3.size
              have hbs := hb2.trans (hb3.mono hbx2)
              obtain ⟨ca1, cl1, cc1, ca2, cl2, cc2, n0, n1, n2, n3, sf, sm⟩ := BX.out.below hbs
              obtain ⟨da1, dl1, dc1, da2, dl2, dc2, o0, o1, o2, o3, tf, tm⟩ := DX.out.below hbs
              clear n0 n1 o0 o1 n3 o3 sm tm
              have hfl := sf.len.1
              have hfc := sf.len.2
              have hfm : cl1 ≤ 9223372036854775807 := by unfold maxLen at hfc; omega
              by_cases hlt3 : i < c.fFields.length
              rotate_left
              · obtain rfl : i = c.fFields.length := by omega
                have hi2 : ¬ (c.fFields.length < cl1) := by omega
                have OK : Hid (pairOk p ⟨(xi : Int), xn⟩ ⟨(yi : Int), yn⟩ = true) := Lib.hid (by rw [PF.out]; exact pairFits_ok HM.out (each_done HA3.out rfl))
                clear hfl hfc
                have hEB := hbF.trans (hbs.mono hbF.size)
                go_wp2
                go_roundw
                case measure => simp [intOf]; omega
                case rel =>
                  (repeat apply Exists.intro)
                  first
                    | exact ⟨(show 1 ≤ k + 1 by omega), by omega, by go_num, EachTo.step HA.out E0.out (by unfold overL; rw [if_neg (by omega)]; exact OK.out), hEB⟩
                    | exact ⟨⟨(show 1 ≤ k + 1 by omega), by omega, by go_num, EachTo.step HA.out E0.out (by unfold overL; rw [if_neg (by omega)]; exact OK.out), hEB⟩, rfl⟩
              have hi2 : i < cl1 := by omega
              go_wp2_with fail
              obtain ⟨_, _, _, emf, _, _, _, h34⟩ := id sf
              cases emf
              obtain ⟨b4, off4, rfl, _, hbl4, hr4⟩ := h34 (by omega)
              obtain ⟨f, csf, f0, _, f1, f4⟩ := hr4 i (by omega)
              obtain ⟨rfl, bf1, bf2⟩ := f4
              have F0 := Lib.hid f0
              have r0 := In.cell (show ws.cell? ⟨b4, off4 + i * 3, none⟩ = some (.string f.fName) from f1 0 _ rfl)
              have yn2 := In.cell n2
              have yo2 := In.cell o2
              have SF : ∀ y : In ws, Calls Tryz.prog 100 #[.slice da1 dl1 dc1, .string f.fName] y.x fun e w' => e = .returned (.int .i64 (fieldAt u.fFields f.fName)) ∧ y.x = w' := fun y => S_l2Field _ _ f.fName y.x (tf.stays rClsField_good (Keeps.of_below y.h))
              obtain ⟨q, hq⟩ : ∃ q, q = fieldAt u.fFields f.fName := ⟨_, rfl⟩
              rw [← hq] at SF
              have HQ := Lib.hid hq
              have g1 : (i : Int) < (cl1 : Int) := by omega
              have g2 : (0 : Int) ≤ (i : Int) := by omega
              clear f0 f1 hr4 hq n2 o2 h34
              by_cases hq0 : 0 ≤ q
              · have gq : decide (0 ≤ q) = true := by simpa using hq0
                have STOP : Hid (fieldFits u f = false) := Lib.hid (by unfold fieldFits; rw [← HQ.out]; simp; omega)
                refine wp_region_in (by kernel_rfl) (by kernel_rfl) ?_
                repeat (go_big_quiet_step (first | (go_at_call 100; exact Calls.ins_same (SF _))))
                refine wpQuiet_nil ?_
                rintro wZ ⟨⟨wE, hwE⟩, hq⟩
                obtain rfl : wE = wZ := hq.symm
                clear hq
                have hwEs := hwE.size
                (try dsimp only)
                have hEE := hbs.trans (hwE.mono hbs.size)
                have RV : Hid (z = false) := Lib.hid (by rw [HZ.out]; exact overL_stop hk1 E0.out (by rw [PF.out]; exact pairFits_f (each_stop F0.out STOP.out)))
                go_wp2
                all_goals (try go_returns)
                all_goals exact HR.out _ _ ⟨by rw [RV.out]; rfl, HEX.out.trans (hEE.mono HEX.out.size)⟩
              have gq : decide (0 ≤ q) = false := by simpa using hq0
              have STEP : Hid (fieldFits u f = true) := Lib.hid (by unfold fieldFits; rw [← HQ.out]; simp; omega)
              refine wp_region_in (by kernel_rfl) (by kernel_rfl) ?_
              repeat (go_big_quiet_step (first | (go_at_call 100; exact Calls.ins_same (SF _))))
              refine wpQuiet_nil ?_
              rintro wZ ⟨⟨wE, hwE⟩, hq⟩
              obtain rfl : wE = wZ := hq.symm
              clear hq
              have hwEs := hwE.size
              (try dsimp only)
              have hEE := hb3.trans (hwE.mono hbx3)
              go_wp2
              go_roundw
              case measure => simp [intOf]; omega
              case rel => exact ⟨i + 1, by omega, by go_num, EachTo.step HA3.out F0.out STEP.out, hEE⟩
          have hj2 : j < cl2 := by omega
          have N3 := Lib.hid n3
          have O3 := Lib.hid o3
          go_wp2_with fail
          obtain ⟨_, _, _, emq, _, _, _, h32⟩ := id sm
          cases emq
          obtain ⟨b2, off2, rfl, _, hbl2, hr2⟩ := h32 (by omega)
          obtain ⟨m, csm, f0, _, f1, f4⟩ := hr2 j (by omega)
          obtain ⟨x1, x2, x3, rfl, t1, t2, t3, bm1, bm2⟩ := f4
          obtain ⟨xa1, xl1, xc1, rfl⟩ := t1.form
          obtain ⟨xa2, xl2, xc2, rfl⟩ := t2.form
          obtain ⟨xa3, xl3, xc3, rfl⟩ := t3.form
          have F0 := Lib.hid f0
          have F1 := Lib.hid f1
          have r0 := In.cell (show wq.cell? ⟨b2, off2 + j * 8, none⟩ = some (.string m.fName) from f1 0 _ rfl)
          have yn3 := In.cell n3
          have yo3 := In.cell o3
          have SM : ∀ y : In wq, Calls Tryz.prog 97 #[.slice da2 dl2 dc2, .string m.fName] y.x fun e w' => e = .returned (.int .i64 (methodAt u.fMethods m.fName)) ∧ y.x = w' := fun y => S_l2Method _ _ m.fName y.x (tm.stays rClsMethod_good (Keeps.of_below y.h))
          obtain ⟨q, hq⟩ : ∃ q, q = methodAt u.fMethods m.fName := ⟨_, rfl⟩
          rw [← hq] at SM
          have HQ := Lib.hid hq
          have g1 : (j : Int) < (cl2 : Int) := by omega
          have g2 : (0 : Int) ≤ (j : Int) := by omega
          clear f0 f1 hr2 hq n3 o3 h32
          refine wp_region_in (by kernel_rfl) (by kernel_rfl) ?_
          repeat (go_big_quiet_step (first | (go_at_call 97; exact Calls.ins_same (SM _))))
          refine wpQuiet_nil ?_
          rintro wZ ⟨⟨wE, hwE⟩, hq⟩
          obtain rfl : wE = wZ := hq.symm
          clear hq
          have hwEs := hwE.size
          (try dsimp only)
          clear r0 yn3 yo3 SM
          have hEE := hb2.trans (hwE.mono hbx2)
          have hEz := hEE.size
          go_wp2_with fail
          by_cases hq0 : q < 0
          · have STEP : Hid (methodFits p xi yi u m = true) := Lib.hid (methodFits_none (by rw [← HQ.out]; exact hq0))
            have gq : decide (0 ≤ q) = false := by simp; omega
            refine wp_region_in (by kernel_rfl) (by kernel_rfl) ?_
            repeat (go_big_quiet_step (first | fail))
            refine wpQuiet_nil ?_
            rintro wZ ⟨⟨wG, hwG⟩, hq⟩
            obtain rfl : wG = wZ := hq.symm
            clear hq
            have hwGs := hwG.size
            (try dsimp only)
            have hE3 := hEE.trans (hwG.mono hEz)
            go_wp2
            go_roundw
            case measure => simp [intOf]; omega
            case rel => exact ⟨j + 1, by omega, by go_num, EachTo.step HA2.out F0.out STEP.out, hE3⟩
          obtain ⟨n, rfl⟩ : ∃ n : Nat, q = (n : Int) := ⟨q.toNat, by omega⟩
          obtain ⟨x, hx⟩ := methodAt_row HQ.out.symm
          have MF : Hid (methodFits p xi yi u m = (sameSig m x && shapeP p xi yi m)) := Lib.hid (methodFits_some HQ.out.symm hx)
          have hnl : n < dl2 := by rw [← tm.len.1]; exact (List.getElem?_eq_some_iff.1 hx).1
          obtain ⟨_, _, _, emq2, _, _, _, h33⟩ := id tm
          cases emq2
          obtain ⟨b3, off3, rfl, _, hbl3, hr3⟩ := h33 (by omega)
          obtain ⟨x', csx, g0', _, g1', g4⟩ := hr3 n hnl
          obtain rfl : x = x' := Option.some.inj (hx.symm.trans g0')
          obtain ⟨z1, z2, z3, rfl, w1, w2, w3, bn1, bn2⟩ := g4
          obtain ⟨za1, zl1, zc1, rfl⟩ := w1.form
          obtain ⟨za2, zl2, zc2, rfl⟩ := w2.form
          obtain ⟨za3, zl3, zc3, rfl⟩ := w3.form
          have gq : decide (0 ≤ (n : Int)) = true := by simp
          have gn1 : (n : Int) < (dl2 : Int) := by omega
          have gn2 : (0 : Int) ≤ (n : Int) := by omega
          have gz1 : (0 : Int) < (len : Int) := by omega
          have gk1 : (k : Int) < (len : Int) := by omega
          have gk2 : (0 : Int) ≤ (k : Int) := by omega
          have e3 := In.cell (keep_cell hwE N3.out)
          have d3 := In.cell (keep_cell hwE O3.out)
          have pl := In.cell (keep_cell hwE (keep_cell hb2 PX.out))
          have c1 := In.cell (keep_cell hwE (keep_cell hb2 QX.out))
          have c2 := In.cell (keep_cell hwE (keep_cell hb2 RX.out))
          have r0 := In.cell (keep_cell hwE (show wq.cell? ⟨b2, off2 + j * 8, none⟩ = some (.string m.fName) from F1.out 0 _ rfl))
          have r1 := In.cell (keep_cell hwE (show wq.cell? ⟨b2, off2 + j * 8 + 1, none⟩ = some (.slice xa1 xl1 xc1) from F1.out 1 _ rfl))
          have r2 := In.cell (keep_cell hwE (show wq.cell? ⟨b2, off2 + j * 8 + 2, none⟩ = some (.int .i64 m.fRet.fKind) from F1.out 2 _ rfl))
          have r3 := In.cell (keep_cell hwE (show wq.cell? ⟨b2, off2 + j * 8 + 3, none⟩ = some (.string m.fRet.fName) from F1.out 3 _ rfl))
          have r4 := In.cell (keep_cell hwE (show wq.cell? ⟨b2, off2 + j * 8 + 4, none⟩ = some (.int .i64 m.fLocals) from F1.out 4 _ rfl))
          have r5 := In.cell (keep_cell hwE (show wq.cell? ⟨b2, off2 + j * 8 + 5, none⟩ = some (.int .i64 m.fStack) from F1.out 5 _ rfl))
          have r6 := In.cell (keep_cell hwE (show wq.cell? ⟨b2, off2 + j * 8 + 6, none⟩ = some (.slice xa2 xl2 xc2) from F1.out 6 _ rfl))
          have r7 := In.cell (keep_cell hwE (show wq.cell? ⟨b2, off2 + j * 8 + 7, none⟩ = some (.slice xa3 xl3 xc3) from F1.out 7 _ rfl))
          have s0 := In.cell (keep_cell hwE (show wq.cell? ⟨b3, off3 + n * 8, none⟩ = some (.string x.fName) from g1' 0 _ rfl))
          have s1 := In.cell (keep_cell hwE (show wq.cell? ⟨b3, off3 + n * 8 + 1, none⟩ = some (.slice za1 zl1 zc1) from g1' 1 _ rfl))
          have s2 := In.cell (keep_cell hwE (show wq.cell? ⟨b3, off3 + n * 8 + 2, none⟩ = some (.int .i64 x.fRet.fKind) from g1' 2 _ rfl))
          have s3 := In.cell (keep_cell hwE (show wq.cell? ⟨b3, off3 + n * 8 + 3, none⟩ = some (.string x.fRet.fName) from g1' 3 _ rfl))
          have s4 := In.cell (keep_cell hwE (show wq.cell? ⟨b3, off3 + n * 8 + 4, none⟩ = some (.int .i64 x.fLocals) from g1' 4 _ rfl))
          have s5 := In.cell (keep_cell hwE (show wq.cell? ⟨b3, off3 + n * 8 + 5, none⟩ = some (.int .i64 x.fStack) from g1' 5 _ rfl))
          have s6 := In.cell (keep_cell hwE (show wq.cell? ⟨b3, off3 + n * 8 + 6, none⟩ = some (.slice za2 zl2 zc2) from g1' 6 _ rfl))
          have s7 := In.cell (keep_cell hwE (show wq.cell? ⟨b3, off3 + n * 8 + 7, none⟩ = some (.slice za3 zl3 zc3) from g1' 7 _ rfl))
          have SM : ∀ y : In wE, Calls Tryz.prog 98 #[.agg #[.string m.fName, .slice xa1 xl1 xc1, .int .i64 m.fRet.fKind, .string m.fRet.fName, .int .i64 m.fLocals, .int .i64 m.fStack, .slice xa2 xl2 xc2, .slice xa3 xl3 xc3], .agg #[.string x.fName, .slice za1 zl1 zc1, .int .i64 x.fRet.fKind, .string x.fRet.fName, .int .i64 x.fLocals, .int .i64 x.fStack, .slice za2 zl2 zc2, .slice za3 zl3 zc3]] y.x fun e w' => e = .returned (.bool (sameSig m x)) ∧ Below y.x.heap.size y.x w' := fun y =>
            S_l4Same m x _ _ _ _ _ _ _ _ _ _ _ _ _ _ y.x ((t1.stays rKndKind_good (Keeps.of_below hwE)).stays rKndKind_good (Keeps.of_below y.h)) ((w1.stays rKndKind_good (Keeps.of_below hwE)).stays rKndKind_good (Keeps.of_below y.h))
          have SH : ∀ y : In wE, Calls Tryz.prog 99 #[.agg #[.slice pa plen pcap], .int .i64 (xi : Int), .int .i64 (yi : Int), .agg #[.string m.fName, .slice xa1 xl1 xc1, .int .i64 m.fRet.fKind, .string m.fRet.fName, .int .i64 m.fLocals, .int .i64 m.fStack, .slice xa2 xl2 xc2, .slice xa3 xl3 xc3]] y.x fun e w' => e = .returned (.bool (shapeP p xi yi m)) ∧ Below y.x.heap.size y.x w' := fun y =>
            S_l4Shape p xi yi m _ _ _ _ _ _ _ _ y.x ((SX.out.stays rLodKeeper_good (Keeps.of_below hEE)).stays rLodKeeper_good (Keeps.of_below y.h)) HP.out hxi hyi ((t1.stays rKndKind_good (Keeps.of_below hwE)).stays rKndKind_good (Keeps.of_below y.h)) bm2
          clear g0' g1' hx hr3 h33 hq0
          cases hs1 : sameSig m x
          · have STOP : Hid (methodFits p xi yi u m = false) := Lib.hid (by rw [MF.out, hs1]; rfl)
            rw [hs1] at SM
            clear hs1
            refine wp_region_in (by kernel_rfl) (by kernel_rfl) ?_
            repeat (go_big_quiet_step (first | (go_at_call 98; exact Calls.ins (SM _)) | (go_at_call 99; exact Calls.ins (SH _))))
            refine wpQuiet_nil ?_
            rintro wZ ⟨⟨wG, hwG⟩, hq⟩
            obtain rfl : wG = wZ := hq.symm
            clear hq
            have hwGs := hwG.size
            (try dsimp only)
            have hE3 := hEE.trans (hwG.mono hEz)
            have RV : Hid (z = false) := Lib.hid (by rw [HZ.out]; exact overL_stop hk1 E0.out (by rw [PF.out]; exact pairFits_m (each_stop F0.out STOP.out)))
            go_wp2
            all_goals (try go_returns)
            all_goals exact HR.out _ _ ⟨by rw [RV.out]; rfl, HEX.out.trans (hE3.mono HEX.out.size)⟩
          cases hs2 : shapeP p xi yi m
          · have STOP : Hid (methodFits p xi yi u m = false) := Lib.hid (by rw [MF.out, hs1, hs2]; rfl)
            rw [hs1] at SM
            rw [hs2] at SH
            clear hs1 hs2
            refine wp_region_in (by kernel_rfl) (by kernel_rfl) ?_
            repeat (go_big_quiet_step (first | (go_at_call 98; exact Calls.ins (SM _)) | (go_at_call 99; exact Calls.ins (SH _))))
            refine wpQuiet_nil ?_
            rintro wZ ⟨⟨wG, hwG⟩, hq⟩
            obtain rfl : wG = wZ := hq.symm
            clear hq
            have hwGs := hwG.size
            (try dsimp only)
            have hE3 := hEE.trans (hwG.mono hEz)
            have RV : Hid (z = false) := Lib.hid (by rw [HZ.out]; exact overL_stop hk1 E0.out (by rw [PF.out]; exact pairFits_m (each_stop F0.out STOP.out)))
            go_wp2
            all_goals (try go_returns)
            all_goals exact HR.out _ _ ⟨by rw [RV.out]; rfl, HEX.out.trans (hE3.mono HEX.out.size)⟩
          have STEP : Hid (methodFits p xi yi u m = true) := Lib.hid (by rw [MF.out, hs1, hs2]; rfl)
          rw [hs1] at SM
          rw [hs2] at SH
          clear hs1 hs2
          refine wp_region_in (by kernel_rfl) (by kernel_rfl) ?_
          repeat (go_big_quiet_step (first | (go_at_call 98; exact Calls.ins (SM _)) | (go_at_call 99; exact Calls.ins (SH _))))
          refine wpQuiet_nil ?_
          rintro wZ ⟨⟨wG, hwG⟩, hq⟩
          obtain rfl : wG = wZ := hq.symm
          clear hq
          have hwGs := hwG.size
          (try dsimp only)
          have hE3 := hEE.trans (hwG.mono hEz)
          go_wp2
          go_roundw
          case measure => simp [intOf]; omega
          case rel => exact ⟨j + 1, by omega, by go_num, EachTo.step HA2.out F0.out STEP.out, hE3⟩

theorem Refs.sl {w : World} {base : Nat} {v : Value} {rs : List DLodRef} (h : Refs w base v rs) (hn : ∀ r ∈ rs, r.fName.size ≤ maxLen) : Sl 2 rLodRef 0 w v rs := by
  by_cases h0 : 0 < rs.length
  · obtain ⟨g, cap, rfl, hb, hc, hm, hg⟩ := h.form h0
    refine ⟨_, _, _, rfl, rfl, hc, hm, fun _ => ⟨g, 0, rfl, Nat.zero_le _, hg, fun i hi => ?_⟩⟩
    obtain ⟨x, hx⟩ : ∃ x, rs[i]? = some x := ⟨_, List.getElem?_eq_getElem hi⟩
    obtain ⟨c1, c2⟩ := h.cell2 hx
    refine ⟨x, [.int .i64 x.fKeeper, .string x.fName], hx, rfl, fun j u hj => ?_, rfl, hn x (List.mem_of_getElem? hx)⟩
    match j, hj with
    | 0, hj => cases hj; simpa using c1
    | 1, hj => cases hj; simpa using c2
    | j + 2, hj => simp at hj
  · obtain rfl : rs = [] := List.eq_nil_of_length_eq_zero (by omega)
    obtain ⟨va, vc, rfl⟩ := h.form0
    obtain ⟨_, h⟩ := h
    rcases h with ⟨e, _⟩ | ⟨g, cap, cur, h1, h2, h3, h4, h5, _⟩
    · cases e; exact ⟨_, _, _, rfl, rfl, Nat.le_refl _, Nat.zero_le _, fun h => absurd h (by simp)⟩
    · cases h1; exact ⟨_, _, _, rfl, rfl, h4, h5, fun h => absurd h (by simp)⟩
theorem Sl.drop {α : Type} {k : Nat} {R : RowRel α} {lo : Nat} {w : World} {b off len cap : Nat} {xs : List α} (h : Sl k R lo w (.slice (some ⟨b, off, none⟩) len cap) xs) {j : Nat} (hj : j ≤ len) : Sl k R lo w (.slice (some ⟨b, off + j * k, none⟩) (len - j) (cap - j)) (xs.drop j) := by
  obtain ⟨a', len', cap', e, hl, h1, h2, h3⟩ := h
  cases e
  refine ⟨_, _, _, rfl, by rw [List.length_drop, hl], by omega, by omega, fun hpos => ?_⟩
  obtain ⟨b', off', e, hlo, hbl, hr⟩ := h3 (by omega)
  cases e
  refine ⟨b, off + j * k, rfl, hlo, hbl, fun i hi => ?_⟩
  obtain ⟨x, cs, e0, e1, e2, e3⟩ := hr (j + i) (by omega)
  refine ⟨x, cs, by rw [List.getElem?_drop]; exact e0, e1, ?_, e3⟩
  rw [Nat.add_assoc, ← Nat.add_mul]; exact e2

set_option maxRecDepth 100000 in
set_option maxHeartbeats 8000000 in
theorem S_l4Laid (p : DLodPlan) (v1 : Value) (r : DLodRef) (rs : List DLodRef) (w : World) (s1 : Sl 2 rLodKeeper 0 w v1 p.fKeepers) (hp : lodOk p = true) (ht : There p r) (hr : chainR p r = some rs) :
    Calls Tryz.prog 64 #[.agg #[v1], .agg #[.int .i64 r.fKeeper, .string r.fName]] w fun e w' => e = .returned (.bool (laidL p rs)) ∧ Below w.heap.size w w' := by
  obtain ⟨a, len, cap, rfl⟩ := s1.form
  have HS := Lib.hid s1
  have HP := Lib.hid hp
  have HT := Lib.hid ht
  have HRS := Lib.hid hr
  have HAL := Lib.hid (chainF_there hp 6 r rs ht hr)
  clear s1 hp ht hr
  obtain ⟨z, hz⟩ : ∃ z, z = laidL p rs := ⟨_, rfl⟩
  have HZ := Lib.hid hz
  rw [← hz]
  clear hz
  refine calls_hide fun R HR => ?_
  go_enter Tryz.func64, Tryz.ntmps64
  go_wp2_with fail
  refine (S_l3Chain p _ r _ (HS.out.stays rLodKeeper_good (Keeps.of_below' (B := w.heap.size) (by (repeat' (first | (with_reducible exact Below.refl _ _) | (with_reducible refine Below.alloc ?_ ?_ _) | (with_reducible refine Below.setCell ?_ ?_ _) | (with_reducible refine Below.drew ?_) | (refine below_hyp (by assumption) ?_ ?_) | go_size))) (Nat.le_refl _))) HP.out HT.out).mono ?_
  rintro _ wB ⟨hB, v, rfl, hv⟩
  have hRB := hv rs HRS.out
  have hEB : Below w.heap.size w wB := by (repeat' (first | (with_reducible exact Below.refl _ _) | (with_reducible refine Below.alloc ?_ ?_ _) | (with_reducible refine Below.setCell ?_ ?_ _) | (with_reducible refine Below.drew ?_) | (refine below_hyp (by assumption) ?_ ?_) | go_size))
  have hBs := (hB).size; (try simp only [World.size_alloc, World.size_setCell, World.size_drew] at hBs)
  obtain ⟨hBbc, hBbd, hBbo, hBbf, hBbg, hBbp, hBbz, hBbx, hBby⟩ := bfacts (n := w.heap.size) (k := 2) hB (by go_size) (by go_size); replace hBbd := hBbd (by decide); replace hBbg := hBbg (by decide); replace hBbx := hBbx (by decide); have hBbc1 := fun o => hBbc 1 o (by decide); have hBbf1 := fun o => hBbf 1 o (by decide); have hBbz1 := hBbz 1 (by decide); clear hBbc hBbf hBbz
  have p0 : wB.cell? ⟨w.heap.size, 0, none⟩ = some (.slice a len cap) := by go_simp
  have P0 := Lib.hid p0
  obtain ⟨va, vc, rfl⟩ := hRB.form0
  have HRB := Lib.hid hRB
  have SL := Lib.hid (hRB.sl fun x hx => by obtain ⟨_, _, _, _, h⟩ := HAL.out x hx; exact h)
  obtain ⟨n, hnl⟩ : ∃ n, n = rs.length := ⟨_, rfl⟩
  rw [← hnl] at SL ⊢
  have HN := Lib.hid hnl
  have hn63 : n ≤ 9223372036854775807 := by have := SL.out.len.2; unfold maxLen at this; omega
  have hncap := SL.out.len.2.1
  have SP := Lib.hid (HS.out.stays rLodKeeper_good (Keeps.of_below hEB))
  clear hv hRB hBbd hBbg hBbx hBby hBbo hBbp hnl p0
  go_wp2_with fail
  go_loopw [7] (fun zi wr => ∃ k : Nat, k ≤ n ∧ zi = .int .i64 k ∧ EachTo (laidAt p rs) rs k = true ∧ Below wB.heap.size wB wr) (fun zi _ => n - (intOf zi).toNat)
  case atStart => exact ⟨0, Nat.zero_le _, rfl, rfl, Below.refl _ _⟩
  case round =>
    obtain ⟨k, hk, rfl, ha, hb⟩ := hrel
    have HA := Lib.hid ha
    clear ha
    have hbx := hb.size
    by_cases hlt : k < n
    rotate_left
    · obtain rfl : k = n := by omega
      have RV : Hid (z = true) := Lib.hid (by rw [HZ.out]; exact each_done HA.out HN.out.symm)
      go_wp2
      all_goals (try go_returns)
      all_goals exact HR.out _ _ ⟨by rw [RV.out]; rfl, hEB.trans (hb.mono hEB.size)⟩
    obtain ⟨x, hx⟩ : ∃ x, rs[k]? = some x := ⟨_, List.getElem?_eq_getElem (by rw [← HN.out]; exact hlt)⟩
    have X := Lib.hid hx
    obtain ⟨g, rc, he, _, _, _, hgl⟩ := HRB.out.form (by rw [← HN.out]; omega)
    cases he
    have SD : Sl 2 rLodRef 0 wB (.slice (some ⟨g, 0 + k * 2, none⟩) (n - k) (vc - k)) (rs.drop k) := SL.out.drop (by omega)
    rw [Nat.zero_add] at SD
    have SDD := Lib.hid SD
    have y0 := In.cell (keep_cell hb P0.out)
    obtain ⟨q, hq⟩ : ∃ q, q = laidAt p rs k x := ⟨_, rfl⟩
    have hgr : g < wr.heap.size := by omega
    have CO : ∀ y : In wr, Calls Tryz.prog 80 #[.agg #[.slice a len cap], .slice (some ⟨g, k * 2, none⟩) (n - k) (vc - k)] y.x fun e w' => e = .returned (.bool q) ∧ Below y.x.heap.size y.x w' := fun y => by
      have hk := (Keeps.of_below (lo := 0) hb).trans (Keeps.of_below (lo := 0) y.h)
      rw [hq]
      exact S_l4Over p _ _ x (rs.drop k) y.x (SP.out.stays rLodKeeper_good hk) HP.out (SDD.out.stays rLodRef_good hk) (by rw [List.getElem?_drop]; exact X.out) fun c hc => HAL.out c (List.mem_of_mem_drop hc)
    have HQ := Lib.hid hq
    have g1 : (k : Int) ≤ (n : Int) := by omega
    have g2 : (0 : Int) ≤ (k : Int) := by omega
    have g3 : (k : Int) ≤ (vc : Int) := by omega
    have g4 : (n : Int) ≤ (vc : Int) := by omega
    clear hx hq SD
    go_wp2_with fail
    cases q
    · have RV : Hid (z = false) := Lib.hid (by rw [HZ.out]; exact each_stop X.out HQ.out.symm)
      refine wp_region_in (by kernel_rfl) (by kernel_rfl) ?_
      repeat (go_big_quiet_step (first | (go_at_call 80; with_reducible exact Calls.ins (CO _))))
      refine wpQuiet_nil ?_
      rintro wZ ⟨⟨wE, hwE⟩, hq⟩
      obtain rfl : wE = wZ := hq.symm
      clear hq
      have hwEs := hwE.size
      (try dsimp only)
      have hEE := hb.trans (hwE.mono hbx)
      go_wp2
      all_goals (try go_returns)
      all_goals exact HR.out _ _ ⟨by rw [RV.out]; rfl, hEB.trans (hEE.mono hEB.size)⟩
    · refine wp_region_in (by kernel_rfl) (by kernel_rfl) ?_
      repeat (go_big_quiet_step (first | (go_at_call 80; with_reducible exact Calls.ins (CO _))))
      refine wpQuiet_nil ?_
      rintro wZ ⟨⟨wE, hwE⟩, hq⟩
      obtain rfl : wE = wZ := hq.symm
      clear hq
      have hwEs := hwE.size
      (try dsimp only)
      have hEE := hb.trans (hwE.mono hbx)
      go_wp2
      go_roundw
      case measure => simp [intOf]; omega
      case rel => exact ⟨k + 1, by omega, by go_num, EachTo.step HA.out X.out HQ.out.symm, hEE⟩

theorem lodChain_some {p : DLodPlan} {r : DLodRef} (hn : r.fName.size ≤ maxLen) (h : lodChain p r ≠ []) : lodOk p = true ∧ There p r ∧ chainR p r = some (lodChain p r) := by
  unfold lodChain at h
  by_cases h1 : (lodFind p r.fKeeper r.fName).2 = 1
  · rw [if_pos h1] at h
    by_cases h2 : refEq (lodFind p r.fKeeper r.fName).1 r = true
    · obtain ⟨ht, rs, hr, hc⟩ := lodChain_there hn h1 h2
      exact ⟨(lodFind_there hn h1).1, ht, by rw [hc, hr]⟩
    · rw [if_neg h2] at h; exact absurd rfl h
  · rw [if_neg h1] at h; exact absurd rfl h

set_option maxRecDepth 100000 in
set_option maxHeartbeats 8000000 in
theorem S_LnkLaid (x : DLodPlan) (v1 : Value) (r : DLodRef) (w : World) (s1 : Sl 2 rLodKeeper 0 w v1 x.fKeepers) (hn : r.fName.size ≤ maxLen) :
    Calls Tryz.prog 36 #[.agg #[v1], .agg #[.int .i64 r.fKeeper, .string r.fName]] w fun e w' => e = .returned (.bool (lnkLaid x r)) ∧ Below w.heap.size w w' := by
  obtain ⟨a, len, cap, rfl⟩ := s1.form
  have HS := Lib.hid s1
  clear s1
  obtain ⟨z, hz⟩ : ∃ z, z = lnkLaid x r := ⟨_, rfl⟩
  have HZ := Lib.hid hz
  rw [← hz]
  clear hz
  refine calls_hide fun R HR => ?_
  go_enter Tryz.func36, Tryz.ntmps36
  go_wp2_with fail
  refine (S_LodChain x _ r _ (HS.out.stays rLodKeeper_good (Keeps.of_below' (B := w.heap.size) (by (repeat' (first | (with_reducible exact Below.refl _ _) | (with_reducible refine Below.alloc ?_ ?_ _) | (with_reducible refine Below.setCell ?_ ?_ _) | (with_reducible refine Below.drew ?_) | (refine below_hyp (by assumption) ?_ ?_) | go_size))) (Nat.le_refl _))) hn).mono ?_
  rintro _ wA ⟨⟨v, rfl, hR⟩, hA⟩
  have hEA : Below w.heap.size w wA := by (repeat' (first | (with_reducible exact Below.refl _ _) | (with_reducible refine Below.alloc ?_ ?_ _) | (with_reducible refine Below.setCell ?_ ?_ _) | (with_reducible refine Below.drew ?_) | (refine below_hyp (by assumption) ?_ ?_) | go_size))
  have hAs := (hA).size; (try simp only [World.size_alloc, World.size_setCell, World.size_drew] at hAs)
  obtain ⟨hAac, hAad, hAao, hAaf, hAag, hAap, hAaz, hAax, hAay⟩ := bfacts (n := w.heap.size) (k := 2) hA (by go_size) (by go_size); replace hAad := hAad (by decide); replace hAag := hAag (by decide); replace hAax := hAax (by decide); have hAac1 := fun o => hAac 1 o (by decide); have hAaf1 := fun o => hAaf 1 o (by decide); have hAaz1 := hAaz 1 (by decide); clear hAac hAaf hAaz
  obtain ⟨va, vc, rfl⟩ := hR.form0
  obtain ⟨n, hnl⟩ : ∃ n, n = (lodChain x r).length := ⟨_, rfl⟩
  rw [← hnl]
  have HN := Lib.hid hnl
  have LC : lodChain x r ≠ [] → lodOk x = true ∧ There x r ∧ chainR x r = some (lodChain x r) := lodChain_some hn
  have HLC := Lib.hid LC
  clear hR hnl LC
  by_cases h0 : n = 0
  · have RV : Hid (z = false) := Lib.hid (by
      rw [HZ.out]; unfold lnkLaid
      rw [List.eq_nil_of_length_eq_zero (HN.out.symm.trans h0)]; rfl)
    subst h0
    go_wp2
    all_goals (try go_returns)
    all_goals exact HR.out _ _ ⟨by rw [RV.out]; rfl, by (repeat' (first | (with_reducible exact Below.refl _ _) | (with_reducible refine Below.alloc ?_ ?_ _) | (with_reducible refine Below.setCell ?_ ?_ _) | (with_reducible refine Below.drew ?_) | (refine below_hyp (by assumption) ?_ ?_) | go_size))⟩
  have hne : lodChain x r ≠ [] := fun e => h0 (by rw [HN.out, e]; rfl)
  obtain ⟨h1, h2, h3⟩ := HLC.out hne
  have RV : Hid (z = laidL x (lodChain x r)) := Lib.hid (by
    rw [HZ.out]; unfold lnkLaid
    cases e : lodChain x r with
    | nil => exact absurd e hne
    | cons _ _ => rfl)
  have H1 := Lib.hid h1
  have H2 := Lib.hid h2
  have H3 := Lib.hid h3
  have hn0 : 0 < n := by omega
  clear h0 hne h1 h2 h3
  go_wp2_with fail
  refine (S_l4Laid x _ r (lodChain x r) _ (HS.out.stays rLodKeeper_good (Keeps.of_below (by (repeat' (first | (with_reducible exact Below.refl _ _) | (with_reducible refine Below.alloc ?_ ?_ _) | (with_reducible refine Below.setCell ?_ ?_ _) | (with_reducible refine Below.drew ?_) | (refine below_hyp (by assumption) ?_ ?_) | go_size))))) H1.out H2.out H3.out).mono ?_
  rintro _ wC ⟨rfl, hC⟩
  have hCs := (hC).size; (try simp only [World.size_alloc, World.size_setCell, World.size_drew] at hCs)
  go_wp2
  all_goals (try go_returns)
  all_goals exact HR.out _ _ ⟨by rw [RV.out]; rfl, by (repeat' (first | (with_reducible exact Below.refl _ _) | (with_reducible refine Below.alloc ?_ ?_ _) | (with_reducible refine Below.setCell ?_ ?_ _) | (with_reducible refine Below.drew ?_) | (refine below_hyp (by assumption) ?_ ?_) | go_size))⟩

end Go.Proofs.YtejfecmmcghpmaaGreat
