/-
  Texts of mine, packed: DrawD, PlainC, LawMO, RowMO. No condition beside those of the single theorems.
-/
import Derived.Test.YtcdmmnfdnmjnpaaK11
import Derived.Test.YtcdmmnfdnmjnpaaK2
import Derived.Test.YtcdmmnfdnmjnpaaK13
import Derived.Test.YtcdmmnfdnmjnpaaK9
import Derived.Test.YtcdmmnfdnmjnpaaK12
set_option linter.unusedSimpArgs false
set_option linter.unusedVariables false
namespace Go.Proofs.Ytcdmmnfdnmjnpaa
open Go.RowKit
def MthV (w : World) (m : DClsMethod) (v : Value) : Prop := ∃ (a1 : Option Addr) (l1 c1 : Nat) (a2 : Option Addr) (l2 c2 : Nat) (a3 : Option Addr) (l3 c3 : Nat), v = .agg #[.string m.fName, .slice a1 l1 c1, .int .i64 m.fRet.fKind, .string m.fRet.fName, .int .i64 m.fLocals, .int .i64 m.fStack, .slice a2 l2 c2, .slice a3 l3 c3] ∧
  Sl 2 rKndKind 0 w (.slice a1 l1 c1) m.fArgs ∧ Sl 4 rClsIns 0 w (.slice a2 l2 c2) m.fCode ∧ Sl 3 rClsMap 0 w (.slice a3 l3 c3) m.fMaps ∧ m.fName.size ≤ maxLen ∧ m.fRet.fName.size ≤ maxLen ∧ ∃ css, Src 2 w (.slice a1 l1 c1) css ∧ Rows 2 rKndKind 0 w css m.fArgs

set_option maxRecDepth 100000 in
set_option maxHeartbeats 4000000 in
theorem S_DrawMthOk (v : Value) (w : World) (hv : Bytes w v) :
    Calls Try.prog 15 #[v] w fun e w' => (∃ (m : DClsMethod) (v : Value), e = .returned v ∧ MthV w' m v) ∧ Below w.heap.size w w' := by
  have hv' := hv
  refine calls_hide fun R HR => ?_
  go_enter Try.func15, Try.ntmps15
  go_wp2_with fail
  refine (S_l20Open _ _ (by first | exact hv' | exact hv'.alloc _)).mono ?_
  rintro e w1 ⟨rfl, h1, h2, h3⟩
  simp only [World.size_alloc] at h1 h2 h3
  have h2s := (h2).size; (try simp only [World.size_alloc, World.size_setCell, World.size_drew] at h2s)
  have hlt := h1.lt
  go_wp2_with fail
  refine (S_l20Method _ 0 2 _ (by omega) (by omega) (rdd) (by omega)).mono ?_
  rintro e w2 ⟨m, v1, v2, v3, q, rfl, hm, hq, h4, h5⟩
  have h5s := (h5).size; (try simp only [World.size_alloc, World.size_setCell, World.size_drew] at h5s)
  have R1 : Eight w1 w.heap.size (.string ⟨#[]⟩) (.slice none 0 0) (.int .i64 0) (.string ⟨#[]⟩) (.int .i64 0) (.int .i64 0) (.slice none 0 0) (.slice none 0 0) := (Eight.new w _ _ _ _ _ _ _ _ _).below h2 (by simp)
  have R2 := R1.ex h5 (by have := R1.lt; omega) (by omega)
  have HK2 : Hid ((Try.prog.info? 29).map (·.size) = some 8) := Lib.hid (by kernel_rfl)
  have TH := R2.there
  have hRl := R2.lt
  have hr := tClsMethod_r hm
  have hm2 := hm
  obtain ⟨q1, q2, q3, eq, u1, _⟩ := hm2
  cases eq
  have U1 := Lib.hid u1
  obtain ⟨y1, y2, y3, e0, t1, t2, t3, b1, b2⟩ := id hr
  cases e0
  obtain ⟨aa1, an1, ac1, rfl⟩ := t1.form
  obtain ⟨aa2, an2, ac2, rfl⟩ := t2.form
  obtain ⟨aa3, an3, ac3, rfl⟩ := t3.form
  have T1 := Lib.hid t1
  have T2 := Lib.hid t2
  have T3 := Lib.hid t3
  clear hm hr R1 R2 t1 t2 t3 u1
  go_wp2_with (refine wpList_store_row (by rfl) 29 (.tmp 2) (.tmp 5) (by rfl) w.heap.size [.string m.fName, .slice aa1 an1 ac1, .int .i64 m.fRet.fKind, .string m.fRet.fName, .int .i64 m.fLocals, .int .i64 m.fStack, .slice aa2 an2 ac2, .slice aa3 an3 ac3] (by rfl) (by rfl) TH HK2.out (by intro v hv; simp at hv; rcases hv with rfl | rfl | rfl | rfl | rfl | rfl | rfl | rfl <;> rfl) ?_)
  intro w3 hr3 ht3 hT3
  have hs3 := hT3.size
  obtain ⟨lz, z0, z1, z2, z3, z4, z5, z6, z7, _, _, _, _, _, _, _, _⟩ := Eight.of (by omega) hr3 ht3
  have hb3 : Below w.heap.size w2 w3 := hT3.below (Nat.le_refl _)
  have hK : Keeps w1.heap.size w2 w3 := ⟨by omega, fun k hk hl => hT3.block k (by omega)⟩
  obtain ⟨css, hsrc, hrows⟩ := (U1.out.stays (E := fun _ => True) (rKndKind_goodT.mono fun _ h => h.elim) trivial (KeepsT.of_keeps hK)).src
  have hrows0 : Rows 2 rKndKind 0 w3 css m.fArgs := hrows.mono fun cs x h => h
  have HSR := Lib.hid hsrc
  have HRW := Lib.hid hrows0
  clear hr3 ht3 hT3 TH hsrc hrows hrows0
  go_wp2
  all_goals
    refine bodyPost_ret (v := ?_) ?hrun rfl ?_
    case hrun => (simp only [results, Try.results15]; go_simp; first | done | exact rfl)
    exact HR.out _ _ ⟨⟨m, _, rfl, aa1, an1, ac1, aa2, an2, ac2, aa3, an3, ac3, rfl, (T1.out.stays rKndKind_good hK).low rKndKind_good (Nat.zero_le _), (T2.out.stays rClsIns_good hK).low rClsIns_good (Nat.zero_le _), (T3.out.stays rClsMap_good hK).low rClsMap_good (Nat.zero_le _), b1, b2, css, HSR.out, HRW.out⟩, eexx⟩

theorem each_take {α : Type} {f g : Nat → α → Bool} {xs : List α} (n : Nat) (h : each f xs = true) (hi : ∀ k x, k < n → xs[k]? = some x → f k x = true → g k x = true) : each g (xs.take n) = true := each_iff.2 fun k x e => by
  rw [List.getElem?_take] at e
  split at e
  · rename_i hk; exact hi k x hk e (each_iff.1 h k x e)
  · cases e
theorem lastAt_take {xs : List DClsMap} {n k : Nat} (h : k < n) : lastAt (xs.take n) k = lastAt xs k := by
  cases k with
  | zero => rfl
  | succ k =>
    show (match (xs.take n)[k]? with | some x => x.fAt | none => 0) = (match xs[k]? with | some x => x.fAt | none => 0)
    rw [List.getElem?_take, if_pos (by omega)]
def lessMth (m : DClsMethod) (nm : ByteArray) : DClsMethod := { m with fName := nm, fMaps := m.fMaps.take (m.fMaps.length - 1) }
theorem lessMth_ok {m : DClsMethod} {nm : ByteArray} (h : mthOk m = true) (hn : namOk nm = true) : mthOk (lessMth m nm) = true := by
  unfold mthOk mapsOk codeOk at *
  simp only [Bool.and_eq_true, decide_eq_true_eq] at *
  obtain ⟨⟨⟨⟨⟨⟨⟨⟨⟨h1, h2⟩, h3⟩, h4⟩, h5⟩, h6⟩, h7⟩, h8⟩, h9⟩, h10, h11⟩ := h
  refine ⟨⟨⟨⟨⟨⟨⟨⟨⟨hn, h2⟩, h3⟩, h4⟩, h5⟩, h6⟩, h7⟩, h8⟩, h9⟩, ?_, ?_⟩
  · show (m.fMaps.take _).length ≤ 5
    rw [List.length_take]; omega
  · refine each_take _ h11 fun k x hk _ hx => ?_
    unfold mapIn at hx ⊢
    show (decide (lastAt (m.fMaps.take (m.fMaps.length - 1)) k < x.fAt) && _ && _ && _ && _ && _) = true
    rw [lastAt_take hk]
    exact hx
theorem moreMth_not (m : DClsMethod) (a b c d : DKndKind) : mthOk { m with fArgs := m.fArgs ++ [a, b, c, d] } = false := by
  unfold mthOk
  have : decide ((m.fArgs ++ [a, b, c, d]).length ≤ 3) = false := by rw [decide_eq_false_iff_not, List.length_append]; simp
  simp only [this]
  simp

theorem firstAt_mem {α : Type} {p : α → Bool} {xs : List α} {x : α} (h : x ∈ xs) (hp : p x = true) : 0 ≤ firstAt p xs := by
  rcases firstAt_cases p xs with ⟨_, h2⟩ | ⟨k, y, h1, _⟩
  · obtain ⟨i, hi⟩ := List.mem_iff_getElem?.1 h
    rw [h2 i x hi] at hp; cases hp
  · omega
def lessCls (c : DClsClass) : DClsClass := { c with fFields := c.fFields.take (c.fFields.length - 1), fMethods := c.fMethods.take (c.fMethods.length - 1) }
theorem lessCls_ok {c : DClsClass} (h : clsOk c = true) : clsOk (lessCls c) = true := by
  unfold clsOk at *
  simp only [Bool.and_eq_true, decide_eq_true_eq] at *
  obtain ⟨⟨⟨⟨⟨h1, h2⟩, h3⟩, h4⟩, h5⟩, h6⟩ := h
  refine ⟨⟨⟨⟨⟨h1, h2⟩, ?_⟩, ?_⟩, ?_⟩, ?_⟩
  · show (c.fFields.take _).length ≤ 3
    rw [List.length_take]; omega
  · show (c.fMethods.take _).length ≤ 4
    rw [List.length_take]; omega
  · refine each_take _ h5 fun k x hk _ hx => ?_
    unfold fieldIn at hx ⊢
    show (_ && _ && decide (fieldAt ((c.fFields.take (c.fFields.length - 1)).take k) x.fName < 0)) = true
    rw [List.take_take, Nat.min_eq_left (by omega)]
    exact hx
  · refine each_take _ h6 fun k x hk _ hx => ?_
    unfold methodIn at hx ⊢
    show (_ && decide (methodAt ((c.fMethods.take (c.fMethods.length - 1)).take k) x.fName < 0)) = true
    rw [List.take_take, Nat.min_eq_left (by omega)]
    exact hx
theorem twice_not {α : Type} {f : Nat → α → Bool} {xs : List α} {x : α} (h : f xs.length x = false) : each f (xs ++ [x]) = false := each_stop (k := xs.length) (x := x) (by simp) h
theorem twiceFld_not {c : DClsClass} {ms : List DClsMethod} {f : DClsField} (h : f ∈ c.fFields) : clsOk { c with fFields := c.fFields ++ [f], fMethods := ms } = false := by
  unfold clsOk
  have : each (fieldIn (c.fFields ++ [f])) (c.fFields ++ [f]) = false := twice_not (by
    unfold fieldIn
    rw [List.take_left]
    have h0 : 0 ≤ fieldAt c.fFields f.fName := firstAt_mem h (sameN_self _)
    simp; intro _ _; omega)
  simp only [this]
  simp
theorem twiceMth_not {c : DClsClass} {fs : List DClsField} {m : DClsMethod} (h : m ∈ c.fMethods) : clsOk { c with fFields := fs, fMethods := c.fMethods ++ [m] } = false := by
  unfold clsOk
  have : each (methodIn (c.fMethods ++ [m])) (c.fMethods ++ [m]) = false := twice_not (by
    unfold methodIn
    rw [List.take_left]
    have h0 : 0 ≤ methodAt c.fMethods m.fName := firstAt_mem h (sameN_self _)
    simp; intro _; omega)
  simp only [this]
  simp

def lessLod (p : DLodPlan) (i : Nat) (k : DLodKeeper) : DLodPlan := ⟨p.fKeepers.set i ⟨k.fOwns.take (k.fOwns.length - 1), []⟩⟩
theorem lessLod_ok {p : DLodPlan} (hp : lodOk p = true) {i : Nat} {k : DLodKeeper} (hk : p.fKeepers[i]? = some k) : lodOk (lessLod p i k) = true := by
  have hi := (List.getElem?_eq_some_iff.1 hk).1
  have hpl : 1 ≤ p.fKeepers.length ∧ p.fKeepers.length ≤ 3 := by
    unfold lodOk at hp
    simp only [Bool.and_eq_true, decide_eq_true_eq] at hp
    exact hp.1
  have hke : ∀ (j : Nat) x, p.fKeepers[j]? = some x → keeperOk p.fKeepers.length x = true := fun j x e => by
    unfold lodOk at hp
    simp only [Bool.and_eq_true] at hp
    exact each_iff.1 hp.2 j x e
  have hll : (lessLod p i k).fKeepers.length = p.fKeepers.length := by simp [lessLod]
  refine lod_ok (K := (lessLod p i k).fKeepers) (by rw [hll]; exact hpl) fun x hx => ?_
  rw [hll]
  obtain ⟨j, hj⟩ := List.mem_iff_getElem?.1 hx
  unfold lessLod at hj
  simp only [List.getElem?_set] at hj
  by_cases h : i = j
  · subst h
    rw [if_pos rfl, if_pos hi] at hj
    cases hj
    have h0 := hke i k hk
    unfold keeperOk at h0 ⊢
    simp only [Bool.and_eq_true, decide_eq_true_eq] at h0 ⊢
    refine ⟨⟨⟨by rw [List.length_take]; omega, by simp⟩, ?_⟩, rfl⟩
    refine each_take _ h0.1.2 fun a x hk _ hx => ?_
    unfold ownIn at hx ⊢
    rw [List.take_take, Nat.min_eq_left (by omega)]
    exact hx
  · rw [if_neg h] at hj
    exact hke j x hj
def nA : ByteArray := tx [97]
def offLod (p : DLodPlan) (i : Nat) (k : DLodKeeper) : DLodPlan := ⟨p.fKeepers.set i ⟨k.fOwns, [⟨nA, (p.fKeepers.length : Int)⟩]⟩⟩
theorem offLod_not {p : DLodPlan} {i : Nat} {k : DLodKeeper} (hk : p.fKeepers[i]? = some k) : lodOk (offLod p i k) = false := by
  have hi := (List.getElem?_eq_some_iff.1 hk).1
  have hll : (offLod p i k).fKeepers.length = p.fKeepers.length := by simp [offLod]
  unfold lodOk
  have : each (fun _ k => keeperOk ((offLod p i k).fKeepers.length) k) (offLod p i k).fKeepers = each (fun _ k => keeperOk ((offLod p i k).fKeepers.length) k) (offLod p i k).fKeepers := rfl
  have h2 : each (fun _ x => keeperOk ((offLod p i k).fKeepers.length) x) (offLod p i k).fKeepers = false := each_stop (k := i) (x := ⟨k.fOwns, [⟨nA, (p.fKeepers.length : Int)⟩]⟩) (by simp [offLod, List.getElem?_set, hi]) (by
    rw [hll]
    unfold keeperOk
    have : each (askIn (p.fKeepers.length : Int) [⟨nA, (p.fKeepers.length : Int)⟩]) [⟨nA, (p.fKeepers.length : Int)⟩] = false := each_stop (k := 0) rfl (by
      unfold askIn
      have : decide ((p.fKeepers.length : Int) ≤ (p.fKeepers.length : Int) - 1) = false := by rw [decide_eq_false_iff_not]; omega
      simp [this])
    simp [this])
  rw [h2]
  simp

set_option maxHeartbeats 400000 in
theorem L_loOk' (w : World) : Calls Try.prog 18 #[] w fun e w' => e = .returned (.bool true) ∧ Below w.heap.size w w' := by
  refine calls_hide fun R HR => ?_
  go_enter Try.func18, Try.ntmps18
  go_wp2_with (go_at_call 53; refine (I_NamOk _ _ (by decide)).mono ?_; rintro _ _ ⟨rfl, rfl⟩)
  all_goals (try go_returns)
  all_goals exact HR.out _ _ ⟨rfl, bbel⟩

theorem empty0_new (w : World) (e : TypeId) {B b : Nat} (hb : b = w.heap.size) (hB : B ≤ w.heap.size) : Empty0 e B (w.alloc (.cells #[] e)) (.slice (some ⟨b, 0, none⟩) 0 0) := by
  subst hb; exact Empty0.new w e hB
def nOther : ByteArray := ⟨#[111, 116, 104, 101, 114]⟩

def kOne : DKndKind := ⟨1, ⟨#[]⟩⟩
theorem rows4 (lo : Nat) (w : World) : Rows 2 rKndKind lo w [[.int .i64 1, .string ⟨#[]⟩], [.int .i64 1, .string ⟨#[]⟩], [.int .i64 1, .string ⟨#[]⟩], [.int .i64 1, .string ⟨#[]⟩]] [kOne, kOne, kOne, kOne] := by
  have h : Rows 2 rKndKind lo w [[.int .i64 1, .string ⟨#[]⟩]] [kOne] := Rows.one rfl ⟨rfl, by decide⟩
  exact Rows.append (c1 := [_]) (x1 := [_]) h (Rows.append (c1 := [_]) (x1 := [_]) h (Rows.append (c1 := [_]) (x1 := [_]) h h))
theorem nOther_ok : namOk nOther = true := by decide
set_option maxRecDepth 100000 in
set_option maxHeartbeats 8000000 in
theorem L_FnMthOk (v : Value) (w : World) (hv : Bytes w v) :
    Calls Try.prog 3 #[v] w fun e w' => e = .returned (.bool true) ∧ Below w.heap.size w w' := by
  obtain ⟨c, len, cap, rfl, g1, g2, g3⟩ := id hv
  have m1 : len ≤ 9223372036854775807 := by unfold maxLen at g2; omega
  clear g2 g3
  refine calls_hide fun R HR => ?_
  go_enter Try.func3, Try.ntmps3
  go_wp2_with fail
  all_goals first
    | (try go_returns
       exact HR.out _ _ ⟨rfl, bbel⟩)
    | skip
  refine (S_DrawMthOk _ _ hv).mono ?_
  rintro _ w1 ⟨⟨m, _, rfl, aa1, an1, ac1, aa2, an2, ac2, aa3, an3, ac3, rfl, t1, t2, t3, b1, b2, cA, hsA, hrA⟩, h1⟩
  have h1s := (h1).size; (try simp only [World.size_alloc, World.size_setCell, World.size_drew] at h1s)
  obtain ⟨hfl, hfc, hfm⟩ := t3.len
  have hfm' : an3 ≤ 9223372036854775807 := by unfold maxLen at hfm; omega
  obtain ⟨ok, hok⟩ : ∃ x, mthOk m = x := ⟨_, rfl⟩
  have CI : Hid (∀ W, Below w1.heap.size w1 W → Calls Try.prog 16 #[.agg #[.string m.fName, .slice aa1 an1 ac1, .int .i64 m.fRet.fKind, .string m.fRet.fName, .int .i64 m.fLocals, .int .i64 m.fStack, .slice aa2 an2 ac2, .slice aa3 an3 ac3]] W fun e w' => e = .returned (.bool ok) ∧ Below W.heap.size W w') := Lib.hid fun W hW => by
    rw [← hok]
    exact I_MthOk m _ _ _ W (t1.stays rKndKind_good (Keeps.of_below' hW (Nat.le_refl _))) (t2.stays rClsIns_good (Keeps.of_below' hW (Nat.le_refl _))) (t3.stays rClsMap_good (Keeps.of_below' hW (Nat.le_refl _))) b1 b2
  have CS : Hid (∀ W, Below w1.heap.size w1 W → Calls Try.prog 17 #[.agg #[.string m.fName, .slice aa1 an1 ac1, .int .i64 m.fRet.fKind, .string m.fRet.fName, .int .i64 m.fLocals, .int .i64 m.fStack, .slice aa2 an2 ac2, .slice aa3 an3 ac3]] W fun e w' => e = .returned (.bool ok) ∧ Below W.heap.size W w') := Lib.hid fun W hW => by
    rw [← hok]
    exact S_MthOk m _ _ _ W (t1.stays rKndKind_good (Keeps.of_below' hW (Nat.le_refl _))) (t2.stays rClsIns_good (Keeps.of_below' hW (Nat.le_refl _))) (t3.stays rClsMap_good (Keeps.of_below' hW (Nat.le_refl _))) b1 b2
  have HOK := Lib.hid hok
  have T1 := Lib.hid t1
  have T2 := Lib.hid t2
  have T3 := Lib.hid t3
  have HFL := Lib.hid hfl
  clear t1 t2 t3 hok hfl
  go_wp2_with fail
  refine (CI.out _ (bbel)).mono ?_
  rintro _ w2 ⟨rfl, h2⟩
  have h2s := (h2).size; (try simp only [World.size_alloc, World.size_setCell, World.size_drew] at h2s)
  obtain ⟨h2pd, h2po, h2pg, h2pp, h2px, h2py⟩ := bf1 (n := w1.heap.size) h2
  go_wp2_with fail
  refine (CS.out _ (bbel)).mono ?_
  rintro _ w3 ⟨rfl, h3⟩
  have h3s := (h3).size; (try simp only [World.size_alloc, World.size_setCell, World.size_drew] at h3s)
  obtain ⟨h3pd, h3po, h3pg, h3pp, h3px, h3py⟩ := bf1 (n := w1.heap.size) h3
  cases ok
  · go_wp2_with (go_at_call 18; refine (L_loOk' _).mono ?_; rintro _ w9 ⟨rfl, h9⟩)
    all_goals (try go_returns)
    all_goals exact HR.out _ _ ⟨rfl, bbel⟩
  have hB3 : Below w1.heap.size w1 w3 := bbel
  have hl16 : m.fArgs.length ≤ 3 := by
    have := HOK.out
    unfold mthOk at this
    simp only [Bool.and_eq_true, decide_eq_true_eq] at this
    exact this.1.1.1.1.1.1.1.1.2
  have e0 : w3.cell? ⟨w1.heap.size, 0, none⟩ = some (.string m.fName) := by go_simp
  have e1 : w3.cell? ⟨w1.heap.size, 1, none⟩ = some (.slice aa1 an1 ac1) := by go_simp
  have e2 : w3.cell? ⟨w1.heap.size, 2, none⟩ = some (.int .i64 m.fRet.fKind) := by go_simp
  have e3 : w3.cell? ⟨w1.heap.size, 3, none⟩ = some (.string m.fRet.fName) := by go_simp
  have e4 : w3.cell? ⟨w1.heap.size, 4, none⟩ = some (.int .i64 m.fLocals) := by go_simp
  have e5 : w3.cell? ⟨w1.heap.size, 5, none⟩ = some (.int .i64 m.fStack) := by go_simp
  have e6 : w3.cell? ⟨w1.heap.size, 6, none⟩ = some (.slice aa2 an2 ac2) := by go_simp
  have e7 : w3.cell? ⟨w1.heap.size, 7, none⟩ = some (.slice aa3 an3 ac3) := by go_simp
  have hl1 : w1.heap.size < w3.heap.size := block_lt_of_cell e0
  have hl1a : w1.heap.size < w3.heap.size + 1 := by omega
  have hl1b : w1.heap.size < w3.heap.size + 1 + 1 := by omega
  clear h2pd h2pg h2py h2px h3pd h3pg h3py h3px h2 h3
  have HS0 : Hid (∀ W, Below w1.heap.size w1 W → Src 2 W (.slice aa1 an1 ac1) cA) := Lib.hid fun W hW => hsA.kept hW
  have HR0 : Hid (∀ lo W, Rows 2 rKndKind lo W cA m.fArgs) := Lib.hid fun lo W => hrA.mono fun cs x h => h
  have CX : Hid (∀ W, Below w1.heap.size w1 W → Calls Try.prog 16 #[.agg #[.string ⟨#[111, 116, 104, 101, 114]⟩, .slice aa1 an1 ac1, .int .i64 m.fRet.fKind, .string m.fRet.fName, .int .i64 m.fLocals, .int .i64 m.fStack, .slice aa2 an2 ac2, .slice aa3 (an3 - 1) ac3]] W fun e w' => e = .returned (.bool true) ∧ Below W.heap.size W w') := Lib.hid fun W hW => by
    have := I_MthOk (lessMth m nOther) _ _ _ W (T1.out.stays rKndKind_good (Keeps.of_below' hW (Nat.le_refl _))) (T2.out.stays rClsIns_good (Keeps.of_below' hW (Nat.le_refl _))) (by
      have := (T3.out.stays rClsMap_good (Keeps.of_below' hW (Nat.le_refl _))).take (j := an3 - 1) (by omega)
      rw [← HFL.out] at this
      exact this) (show nOther.size ≤ maxLen by decide) b2
    rw [lessMth_ok HOK.out nOther_ok] at this
    rw [HFL.out] at this
    exact this
  clear hsA hrA
  rcases Nat.eq_zero_or_pos an3 with hz | hz
  · subst hz
    have hz0 : (0 : Nat) - 1 = 0 := rfl
    rw [hz0] at CX
    go_wp2_with (at_builtin; refine wpList_append_copyC (B := w3.heap.size + 2) (lo := w3.heap.size + 2) (R := rKndKind) (E := NoT) (ys := m.fArgs) (css := cA) (by rfl) (.tmp 36) (.tmp 38) 23 (by rfl) sty_Knd rKndKind_goodT rKndKind_one (by rfl) (by rfl) (empty0_new _ _ (by simp) (by simp)) (HS0.out _ (bbel)) (HR0.out _ _) (by omega) (Nat.le_refl _) (by simp) ?_)
    intro vA wf htA hbA
    have hsf := hbA.size
    simp only [World.size_alloc, World.size_setCell] at hsf
    obtain ⟨hbAqd, hbAqo, hbAqg, hbAqp, hbAqx, hbAqy, hbAqc1, hbAqf1, hbAqz1⟩ := bf2 (n := w3.heap.size) hbA
    have HA := Lib.hid htA.plain
    obtain ⟨ia, iin, ic, rfl⟩ := htA.plain.sl.form3
    clear htA
    go_wp2_with (at_builtin; refine wpList_append_F (B := w3.heap.size + 2) (lo := w3.heap.size + 2) (R := rKndKind) (E := NoT) (xs := m.fArgs) (ys := [kOne, kOne, kOne, kOne]) (css := [[.int .i64 1, .string ⟨#[]⟩], [.int .i64 1, .string ⟨#[]⟩], [.int .i64 1, .string ⟨#[]⟩], [.int .i64 1, .string ⟨#[]⟩]]) (by rfl) (.tmp 39) (.tmp 44) 23 (by rfl) sty_Knd rKndKind_goodT (fun h => h) rKndKind_one (by rfl) (by rfl) (HA.out.below rKndKind_goodT (bbel)) (Src.lit (css := [[.int .i64 1, .string ⟨#[]⟩], [.int .i64 1, .string ⟨#[]⟩], [.int .i64 1, .string ⟨#[]⟩], [.int .i64 1, .string ⟨#[]⟩]]) wf _ rfl 4 rfl _ rfl) (rows4 _ _) (by simp; omega) (Nat.le_refl _) (by simp; omega) ?_)
    intro vB wh htB hbB hgB hkB hatB
    have hsh := hbB.size
    simp only [World.size_alloc, World.size_setCell] at hsh
    obtain ⟨hbBrd, hbBro, hbBrg, hbBrp, hbBrx, hbBry, hbBrc1, hbBrf1, hbBrz1⟩ := bf2 (n := w3.heap.size) hbB
    have HB := Lib.hid (htB.sl.sl (fun _ _ h => h))
    obtain ⟨ja, jn, jc, rfl⟩ := htB.sl.form3
    have hBh : Below w1.heap.size w1 wh := bbel
    clear htB hgB hkB hatB HA
    go_wp2_with fail
    refine (CX.out _ (bbel)).mono ?_
    rintro _ w10 ⟨rfl, h10⟩
    have h10s := (h10).size; (try simp only [World.size_alloc, World.size_setCell, World.size_drew] at h10s)
    obtain ⟨h10sd, h10so, h10sg, h10sp, h10sx, h10sy, h10sc1, h10sf1, h10sz1⟩ := bf2 (n := w3.heap.size) h10
    have HB10 : Hid (Sl 2 rKndKind 0 w10 (.slice ja jn jc) (m.fArgs ++ [kOne, kOne, kOne, kOne])) := Lib.hid ((HB.out.stays rKndKind_good (by (repeat' (first | (with_reducible exact Keeps.refl _ _) | (with_reducible refine Keeps.alloc ?_ _) | (with_reducible refine Keeps.setCell ?_ ?_ _) | (with_reducible refine Keeps.drew ?_) | (refine keeps_hyp (by assumption) ?_ ?_) | go_size)))).low rKndKind_good (Nat.zero_le _))
    have hB10 : Below w1.heap.size w1 w10 := bbel
    go_wp2_with fail
    refine (I_MthOk { m with fArgs := m.fArgs ++ [kOne, kOne, kOne, kOne] } _ _ _ _ HB10.out (T2.out.stays rClsIns_good (Keeps.of_below' hB10 (Nat.le_refl _))) (T3.out.stays rClsMap_good (Keeps.of_below' hB10 (Nat.le_refl _))) b1 b2).mono ?_
    rw [moreMth_not]
    rintro _ w11 ⟨rfl, h11⟩
    have h11s := (h11).size; (try simp only [World.size_alloc, World.size_setCell, World.size_drew] at h11s)
    go_wp2
    all_goals (try go_returns)
    all_goals exact HR.out _ _ ⟨rfl, bbel⟩
  · obtain ⟨n, rfl⟩ : ∃ n, an3 = n + 1 := ⟨an3 - 1, by omega⟩
    have hz0 : n + 1 - 1 = n := rfl
    rw [hz0] at CX
    have hz1 : (n : Int) ≤ (ac3 : Int) := by omega
    go_wp2_with (at_builtin; refine wpList_append_copyC (B := w3.heap.size + 2) (lo := w3.heap.size + 2) (R := rKndKind) (E := NoT) (ys := m.fArgs) (css := cA) (by rfl) (.tmp 36) (.tmp 38) 23 (by rfl) sty_Knd rKndKind_goodT rKndKind_one (by rfl) (by rfl) (empty0_new _ _ (by simp) (by simp)) (HS0.out _ (bbel)) (HR0.out _ _) (by omega) (Nat.le_refl _) (by simp) ?_)
    intro vA wf htA hbA
    have hsf := hbA.size
    simp only [World.size_alloc, World.size_setCell] at hsf
    obtain ⟨hbAqd, hbAqo, hbAqg, hbAqp, hbAqx, hbAqy, hbAqc1, hbAqf1, hbAqz1⟩ := bf2 (n := w3.heap.size) hbA
    have HA := Lib.hid htA.plain
    obtain ⟨ia, iin, ic, rfl⟩ := htA.plain.sl.form3
    clear htA
    go_wp2_with (at_builtin; refine wpList_append_F (B := w3.heap.size + 2) (lo := w3.heap.size + 2) (R := rKndKind) (E := NoT) (xs := m.fArgs) (ys := [kOne, kOne, kOne, kOne]) (css := [[.int .i64 1, .string ⟨#[]⟩], [.int .i64 1, .string ⟨#[]⟩], [.int .i64 1, .string ⟨#[]⟩], [.int .i64 1, .string ⟨#[]⟩]]) (by rfl) (.tmp 39) (.tmp 44) 23 (by rfl) sty_Knd rKndKind_goodT (fun h => h) rKndKind_one (by rfl) (by rfl) (HA.out.below rKndKind_goodT (bbel)) (Src.lit (css := [[.int .i64 1, .string ⟨#[]⟩], [.int .i64 1, .string ⟨#[]⟩], [.int .i64 1, .string ⟨#[]⟩], [.int .i64 1, .string ⟨#[]⟩]]) wf _ rfl 4 rfl _ rfl) (rows4 _ _) (by simp; omega) (Nat.le_refl _) (by simp; omega) ?_)
    intro vB wh htB hbB hgB hkB hatB
    have hsh := hbB.size
    simp only [World.size_alloc, World.size_setCell] at hsh
    obtain ⟨hbBrd, hbBro, hbBrg, hbBrp, hbBrx, hbBry, hbBrc1, hbBrf1, hbBrz1⟩ := bf2 (n := w3.heap.size) hbB
    have HB := Lib.hid (htB.sl.sl (fun _ _ h => h))
    obtain ⟨ja, jn, jc, rfl⟩ := htB.sl.form3
    have hBh : Below w1.heap.size w1 wh := bbel
    clear htB hgB hkB hatB HA
    go_wp2_with fail
    refine (CX.out _ (bbel)).mono ?_
    rintro _ w10 ⟨rfl, h10⟩
    have h10s := (h10).size; (try simp only [World.size_alloc, World.size_setCell, World.size_drew] at h10s)
    obtain ⟨h10sd, h10so, h10sg, h10sp, h10sx, h10sy, h10sc1, h10sf1, h10sz1⟩ := bf2 (n := w3.heap.size) h10
    have HB10 : Hid (Sl 2 rKndKind 0 w10 (.slice ja jn jc) (m.fArgs ++ [kOne, kOne, kOne, kOne])) := Lib.hid ((HB.out.stays rKndKind_good (by (repeat' (first | (with_reducible exact Keeps.refl _ _) | (with_reducible refine Keeps.alloc ?_ _) | (with_reducible refine Keeps.setCell ?_ ?_ _) | (with_reducible refine Keeps.drew ?_) | (refine keeps_hyp (by assumption) ?_ ?_) | go_size)))).low rKndKind_good (Nat.zero_le _))
    have hB10 : Below w1.heap.size w1 w10 := bbel
    go_wp2_with fail
    refine (I_MthOk { m with fArgs := m.fArgs ++ [kOne, kOne, kOne, kOne] } _ _ _ _ HB10.out (T2.out.stays rClsIns_good (Keeps.of_below' hB10 (Nat.le_refl _))) (T3.out.stays rClsMap_good (Keeps.of_below' hB10 (Nat.le_refl _))) b1 b2).mono ?_
    rw [moreMth_not]
    rintro _ w11 ⟨rfl, h11⟩
    have h11s := (h11).size; (try simp only [World.size_alloc, World.size_setCell, World.size_drew] at h11s)
    go_wp2
    all_goals (try go_returns)
    all_goals exact HR.out _ _ ⟨rfl, bbel⟩

end Go.Proofs.Ytcdmmnfdnmjnpaa
namespace Go.Proofs.Ytcdmmnfdnmjnpaa
open Go.ChangeShapes Go.WideShapes Go.ChangeAt Go.RowKit Go.Joins
theorem cells_u8 : Try.prog.cellsOf 5 = 1 := by kernel_rfl

set_option maxRecDepth 100000 in
theorem fnMthOk_lifted (os : Os) (started : os.Started) (H : Type) (enc : TypeId × Value → H) :
    ReturnsInHanded {} Try.checked os 3 .any (Rows.fnMthOkSpec.pre6 enc Try.prog Try.f3 Rows.fnMthOkRow.domain false) (Rows.fnMthOkSpec.post enc Try.prog Try.f3 false true false false) := by
  refine returnsInHanded_of_change (C := Try.checked) own started (by kernel_rfl) Try.func3
    (ChangeSpec.witness6 (enc := enc) (C := Try.checked) false ⟨#[], #[.slice none 0 0], []⟩ 8 (by kernel_rfl) (by kernel_rfl) (by kernel_rfl) (by kernel_rfl)) ?_
  intro W base args ds gs before hval0 hW hcnd _
  have hval : ∀ (j : Nat) t v, Try.f3.params[j]? = some t → args[j]? = some v → Value.okWide Try.prog W .any base t v := hval0
  have hW' := hW
  obtain ⟨p, q, hA0, hV, rfl, hfz, hnd⟩ := hW
  have hA : DataW.TrodAll enc Try.prog W 0 (fun _ => true) true Try.f3.params.toList args.toList ds p := hA0
  rw [Try.params3] at hA hval
  clear hA0 hval0
  obtain ⟨v0, d0, rfl, rfl, h0⟩ := trodAll_one hA
  obtain ⟨rfl, rfl⟩ := trodVars_none hV
  have b0 := open_bytes Try.underlying22 Try.underlying5 cells_u8 (hval 0 22 v0 rfl rfl) h0
  refine (L_FnMthOk v0 W b0).mono fun e W' h => ?_
  obtain ⟨rfl, hb⟩ := h
  exact ⟨_, rfl, law_post (s := Rows.fnMthOkSpec) hW' hb rfl rfl rfl Try.underlying4 (by rw [Try.params3]; kernel_rfl)⟩
theorem fnMthOk_holds : Rows.FnMthOkSaid :=
  OpenClaim.holds_of_wide 3 Try.f3 rfl rfl rfl rfl rfl rfl rfl ⟨rfl, rfl, rfl, rfl, rfl⟩ rfl rfl rfl rfl rfl (by kernel_rfl) Try.func3 (by kernel_rfl)
    (of_decide_eq_true (by kernel_rfl)) (by unfold Func.isWrapper; first | (rw [if_pos (by decide +kernel)]; kernel_rfl) | (rw [if_neg (by decide +kernel)]; exact ⟨rfl, rfl⟩))
    (fun os started H enc _ => fnMthOk_lifted os started H enc)

end Go.Proofs.Ytcdmmnfdnmjnpaa
