/-
  Texts of mine, packed: Law, InsI, InsJ, InsK, InsO, MthI, MthJ, MthK. No condition beside those of the single theorems.
-/
import Derived.Test.YtfbonocadpknbaaGreatDoorC1
import Derived.ProofKit
import Derived.Lib.SmallJoins
import Derived.Deep.Slices
import Derived.Deep.RegionWith
import Derived.Test.YtfbonocadpknbaaGreatDoorC10
set_option linter.unusedSimpArgs false
set_option linter.unusedVariables false
set_option maxHeartbeats 16000000
set_option maxRecDepth 100000
namespace Go.Proofs.YtfbonocadpknbaaGreatDoor
open Go.ChangeShapes Go.WideShapes Go.ChangeAt Go.RowKit Go.Joins Go.Deep
theorem own : ownKnob Tryz.prog.godebug = none := by kernel_rfl
theorem laidOut : laidOutB Tryz.prog = true := by kernel_rfl

theorem trodAll_stays {H : Type} {enc : TypeId × Value → H} {W W' : World} (hb : Below W.heap.size W W') (ts : List TypeId) :
  ∀ (vs : List Value) (ds : List (DataW H)) (ps : List MemPlace), ts.all (fun t => Tryz.prog.readableRec t && decide (t < Tryz.prog.types.size)) = true →
   DataW.TrodAll enc Tryz.prog W 0 (fun _ => true) true ts vs ds ps → (∀ x ∈ ps, x.block < W.heap.size) →
   DataW.TrodAll enc Tryz.prog W' 0 (fun b => decide (b < W.heap.size)) true ts vs ds ps := by
 induction ts with
 | nil =>
   intro vs ds ps _ h _
   obtain ⟨rfl, rfl, rfl⟩ := trodAll_nil h
   exact trodAll_mk0
 | cons t ts ih =>
   intro vs ds ps hr h hlt
   obtain ⟨v, vs', d, ds', p, q, rfl, rfl, rfl, h1, h2⟩ := trodAll_cons h
   simp only [List.all_cons, Bool.and_eq_true, decide_eq_true_eq] at hr
   exact trodAll_cons_mk (Below.trod laidOut hr.1.1 hr.1.2 h1 hb (fun x hx => hlt x (List.mem_append_left _ hx))) (ih _ _ _ hr.2 h2 (fun x hx => hlt x (List.mem_append_right _ hx)))

theorem law_post {H : Type} {enc : TypeId × Value → H} {F : Func} {s : ChangeSpec} {W W' : World} {args : Array Value} {ds gs : List (DataW H)} {before : List MemPlace} {tb : TypeId}
  (hW : DataW.Whole enc Tryz.prog F.params.toList s.vars false W args.toList ds gs before) (hb : Below W.heap.size W W') (hvars : s.vars = [])
  (hfn : s.fn H (ds ++ gs) = { results := [.lit (.bool true)], args := ds }) (hres : F.resultTypes = #[tb]) (htb : Tryz.prog.underlying tb = some .bool)
  (hr : F.params.toList.all (fun t => Tryz.prog.readableRec t && decide (t < Tryz.prog.types.size)) = true) :
  s.post enc Tryz.prog F false true false false W args (.bool true) W' := by
 have hlt := hW.lt
 have hW' := hW
 obtain ⟨p, q, hA, hV, rfl, _, _⟩ := hW
 rw [hvars] at hV
 obtain ⟨rfl, rfl⟩ := trodVars_none hV
 refine ⟨ds, [], _, [], p, [], hW', ?_, ?_, ?_, hb.frame _, fun h => by cases h⟩
 ·rw [hfn, hres]; exact trodAll_mk1 (shut_bool htb true)
 ·rw [hfn]; exact trodAll_stays hb _ _ _ _ hr hA (fun x hx => hlt x (List.mem_append_left _ hx))
 ·rw [hfn, hvars]; exact rfl

theorem open_bytes {H : Type} {enc : TypeId × Value → H} {W : World} {r : Reach} {b0 : Nat} {v : Value} {d : DataW H} {p : List MemPlace} {t e : TypeId} (hu : Tryz.prog.underlying t = some (.slice e)) (he : Tryz.prog.underlying e = some (.int .u8)) (hc : Tryz.prog.cellsOf e = 1)
  (hv : Value.okWide Tryz.prog W r b0 t v) (h : DataW.Trod enc Tryz.prog W 0 (fun _ => true) true t v d p) : Bytes W v := by
 obtain ⟨a0, len, cap, rfl⟩ := okWide_slice hu hv
 obtain ⟨fuel, hf⟩ := h
 rcases open_ints hu he hc hf with ⟨hcs, hx⟩ | ⟨a, len', cap', zs, hcs, _, hl, hm, hz, hx, hcell, hwz⟩
 ·simp [Value.cells] at hcs
  obtain ⟨rfl, rfl, rfl⟩ := hcs
  exact ⟨none, 0, 0, rfl, Nat.le_refl _, Nat.zero_le _, fun h => absurd h (by omega)⟩
 ·simp [Value.cells] at hcs
  obtain ⟨rfl, rfl, rfl⟩ := hcs
  refine ⟨some a, len, cap, rfl, hl, hm, fun h0 => ?_⟩
  simp at hz
  have h00 := hcell 0 (by omega)
  have hsp : a.spot = none := by
   cases hs : a.spot with
   | none => rfl
   | some x => simp [Addr.add, World.cell?, hs] at h00; split at h00 <;> simp at h00
  have hlt := block_lt_of_cell h00
  obtain ⟨b, off, sp⟩ := a
  simp only at hsp
  subst hsp
  refine ⟨b, off, rfl, by simpa [Addr.add] using hlt, fun i hi => ?_⟩
  have hci := hcell i (by omega)
  have hw := hwz (zs.getD i 0) (by rw [List.getD_eq_getElem?_getD, List.getElem?_eq_getElem (by omega)]; simp)
  have hw' : 0 ≤ zs.getD i 0 ∧ zs.getD i 0 ≤ 255 := by simpa [Lit.wf, IntKind.min, IntKind.max, IntKind.signed, IntKind.bits] using hw
  refine ⟨(zs.getD i 0).toNat, by omega, ?_⟩
  rw [show (((zs.getD i 0).toNat : Nat) : Int) = zs.getD i 0 from by omega, ← hci]
  unfold Addr.add
  split
  ·subst_vars; rfl
  ·rfl

end Go.Proofs.YtfbonocadpknbaaGreatDoor
namespace Go.Proofs.YtfbonocadpknbaaGreatDoor
open Go.RowKit
def opNum (op : Int) : Bool := op == 1 || op == 2 || op == 3 || op == 11 || op == 12 || op == 13
def opCls (op : Int) : Bool := op == 6 || op == 15
def opMem (op : Int) : Bool := op == 7 || op == 8 || op == 9
def opPln (op : Int) : Bool := op == 4 || op == 5 || op == 10 || op == 14
def formV (op a : Int) (n m : ByteArray) : Value :=
 if opNum op then .iface 138 (.agg #[.int .i64 op, .int .i64 a])
 else if opCls op then .iface 140 (.agg #[.int .i64 op, .string n])
 else if opMem op then .iface 142 (.agg #[.int .i64 op, .string n, .string m])
 else if opPln op then .iface 160 (.agg #[.int .i64 op])
 else .nilIface

theorem I_formOf (op a : Int) (n m : ByteArray) (w : World) :
  Calls Tryz.prog 89 #[.agg #[.int .i64 op, .int .i64 a, .string n, .string m]] w fun e w' => e = .returned (formV op a n m) ∧ Below w.heap.size w w' := by
 refine qab fun R HR => ?_
 go_enter Tryz.func89, Tryz.ntmps89
 go_wp2
 all_goals (try go_returns)
 all_goals exact HR.out _ _ ⟨ret_val (by first | (simp [formV, opNum, opCls, opMem, opPln, *]; done) | (simp_all [formV, opNum, opCls, opMem, opPln]; done)), bbel⟩

@[go_sem ↓] theorem ta_num_num (v : Value) (w : World) : (Instr.typeAssert (.iface 138 v) 20 138 true).run Tryz.prog w = .ok (.tuple #[v, .bool true]) w := by kernel_rfl
@[go_sem ↓] theorem ta_num_cls (v : Value) (w : World) : (Instr.typeAssert (.iface 138 v) 20 140 true).run Tryz.prog w = .ok (.tuple #[.agg #[.int .i64 0, .string ⟨#[]⟩], .bool false]) w := by kernel_rfl
@[go_sem ↓] theorem ta_num_mem (v : Value) (w : World) : (Instr.typeAssert (.iface 138 v) 20 142 true).run Tryz.prog w = .ok (.tuple #[.agg #[.int .i64 0, .string ⟨#[]⟩, .string ⟨#[]⟩], .bool false]) w := by kernel_rfl
@[go_sem ↓] theorem ta_num_pln (v : Value) (w : World) : (Instr.typeAssert (.iface 138 v) 20 160 true).run Tryz.prog w = .ok (.tuple #[.agg #[.int .i64 0], .bool false]) w := by kernel_rfl
@[go_sem ↓] theorem ta_cls_num (v : Value) (w : World) : (Instr.typeAssert (.iface 140 v) 20 138 true).run Tryz.prog w = .ok (.tuple #[.agg #[.int .i64 0, .int .i64 0], .bool false]) w := by kernel_rfl
@[go_sem ↓] theorem ta_cls_cls (v : Value) (w : World) : (Instr.typeAssert (.iface 140 v) 20 140 true).run Tryz.prog w = .ok (.tuple #[v, .bool true]) w := by kernel_rfl
@[go_sem ↓] theorem ta_cls_mem (v : Value) (w : World) : (Instr.typeAssert (.iface 140 v) 20 142 true).run Tryz.prog w = .ok (.tuple #[.agg #[.int .i64 0, .string ⟨#[]⟩, .string ⟨#[]⟩], .bool false]) w := by kernel_rfl
@[go_sem ↓] theorem ta_cls_pln (v : Value) (w : World) : (Instr.typeAssert (.iface 140 v) 20 160 true).run Tryz.prog w = .ok (.tuple #[.agg #[.int .i64 0], .bool false]) w := by kernel_rfl
@[go_sem ↓] theorem ta_mem_num (v : Value) (w : World) : (Instr.typeAssert (.iface 142 v) 20 138 true).run Tryz.prog w = .ok (.tuple #[.agg #[.int .i64 0, .int .i64 0], .bool false]) w := by kernel_rfl
@[go_sem ↓] theorem ta_mem_cls (v : Value) (w : World) : (Instr.typeAssert (.iface 142 v) 20 140 true).run Tryz.prog w = .ok (.tuple #[.agg #[.int .i64 0, .string ⟨#[]⟩], .bool false]) w := by kernel_rfl
@[go_sem ↓] theorem ta_mem_mem (v : Value) (w : World) : (Instr.typeAssert (.iface 142 v) 20 142 true).run Tryz.prog w = .ok (.tuple #[v, .bool true]) w := by kernel_rfl
@[go_sem ↓] theorem ta_mem_pln (v : Value) (w : World) : (Instr.typeAssert (.iface 142 v) 20 160 true).run Tryz.prog w = .ok (.tuple #[.agg #[.int .i64 0], .bool false]) w := by kernel_rfl
@[go_sem ↓] theorem ta_pln_num (v : Value) (w : World) : (Instr.typeAssert (.iface 160 v) 20 138 true).run Tryz.prog w = .ok (.tuple #[.agg #[.int .i64 0, .int .i64 0], .bool false]) w := by kernel_rfl
@[go_sem ↓] theorem ta_pln_cls (v : Value) (w : World) : (Instr.typeAssert (.iface 160 v) 20 140 true).run Tryz.prog w = .ok (.tuple #[.agg #[.int .i64 0, .string ⟨#[]⟩], .bool false]) w := by kernel_rfl
@[go_sem ↓] theorem ta_pln_mem (v : Value) (w : World) : (Instr.typeAssert (.iface 160 v) 20 142 true).run Tryz.prog w = .ok (.tuple #[.agg #[.int .i64 0, .string ⟨#[]⟩, .string ⟨#[]⟩], .bool false]) w := by kernel_rfl
@[go_sem ↓] theorem ta_pln_pln (v : Value) (w : World) : (Instr.typeAssert (.iface 160 v) 20 160 true).run Tryz.prog w = .ok (.tuple #[v, .bool true]) w := by kernel_rfl


theorem I_insOf_num (op a : Int) (n m : ByteArray) (w : World) :
  Calls Tryz.prog 106 #[.iface 138 (.agg #[.int .i64 op, .int .i64 a])] w fun e w' => e = .returned (.agg #[.int .i64 op, .int .i64 a, .string ⟨#[]⟩, .string ⟨#[]⟩]) ∧ Below w.heap.size w w' := by
 refine qab fun R HR => ?_
 go_enter Tryz.func106, Tryz.ntmps106
 go_wp2
 all_goals
  refine bodyPost_ret (v := ?_) ?hrun rfl ?_
  case hrun => (simp only [results, Tryz.results106]; go_simp; first | done | exact rfl)
  exact HR.out _ _ ⟨rfl, bbel⟩

theorem I_insOf_cls (op a : Int) (n m : ByteArray) (w : World) :
  Calls Tryz.prog 106 #[.iface 140 (.agg #[.int .i64 op, .string n])] w fun e w' => e = .returned (.agg #[.int .i64 op, .int .i64 0, .string n, .string ⟨#[]⟩]) ∧ Below w.heap.size w w' := by
 refine qab fun R HR => ?_
 go_enter Tryz.func106, Tryz.ntmps106
 go_wp2
 all_goals
  refine bodyPost_ret (v := ?_) ?hrun rfl ?_
  case hrun => (simp only [results, Tryz.results106]; go_simp; first | done | exact rfl)
  exact HR.out _ _ ⟨rfl, bbel⟩

theorem I_insOf_mem (op a : Int) (n m : ByteArray) (w : World) :
  Calls Tryz.prog 106 #[.iface 142 (.agg #[.int .i64 op, .string n, .string m])] w fun e w' => e = .returned (.agg #[.int .i64 op, .int .i64 0, .string n, .string m]) ∧ Below w.heap.size w w' := by
 refine qab fun R HR => ?_
 go_enter Tryz.func106, Tryz.ntmps106
 go_wp2
 all_goals
  refine bodyPost_ret (v := ?_) ?hrun rfl ?_
  case hrun => (simp only [results, Tryz.results106]; go_simp; first | done | exact rfl)
  exact HR.out _ _ ⟨rfl, bbel⟩

theorem I_insOf_pln (op a : Int) (n m : ByteArray) (w : World) :
  Calls Tryz.prog 106 #[.iface 160 (.agg #[.int .i64 op])] w fun e w' => e = .returned (.agg #[.int .i64 op, .int .i64 0, .string ⟨#[]⟩, .string ⟨#[]⟩]) ∧ Below w.heap.size w w' := by
 refine qab fun R HR => ?_
 go_enter Tryz.func106, Tryz.ntmps106
 go_wp2
 all_goals
  refine bodyPost_ret (v := ?_) ?hrun rfl ?_
  case hrun => (simp only [results, Tryz.results106]; go_simp; first | done | exact rfl)
  exact HR.out _ _ ⟨rfl, bbel⟩

def rangeLo (op : Int) : Int := if op == 1 then -9999 else 0
def rangeHi (op : Int) : Int := if op == 1 then 9999 else if op == 2 || op == 3 then 5 else 15

theorem I_numRange (op : Int) (w : World) :
  Calls Tryz.prog 117 #[.int .i64 op] w fun e w' => e = .returned (.tuple #[.int .i64 (rangeLo op), .int .i64 (rangeHi op)]) ∧ w = w' := by
 refine qab fun R HR => ?_
 go_enter Tryz.func117, Tryz.ntmps117
 go_wp2
 all_goals (try go_returns)
 all_goals exact HR.out _ _ ⟨ret_val (by simp [rangeLo, rangeHi, *]), rfl⟩

theorem I_formOk_num (op a : Int) (w : World) :
  Calls Tryz.prog 107 #[.iface 138 (.agg #[.int .i64 op, .int .i64 a])] w fun e w' => e = .returned (.bool (decide (rangeLo op ≤ a) && decide (a ≤ rangeHi op))) ∧ Below w.heap.size w w' := by
 refine qab fun R HR => ?_
 go_enter Tryz.func107, Tryz.ntmps107
 go_wp2_with (go_at_call 117; refine (I_numRange _ _).mono ?_; rintro _ _ ⟨rfl, rfl⟩)
 all_goals (try go_returns)
 all_goals exact HR.out _ _ ⟨qah (by first | (simp [true_and, *]; done) | (simp_all [true_and]; done) | (simp_all [true_and]; omega) | (simp [true_and, *]; intros; omega)), bbel⟩

theorem I_formOk_cls (op : Int) (n : ByteArray) (w : World) (hn : n.size ≤ maxLen) :
  Calls Tryz.prog 107 #[.iface 140 (.agg #[.int .i64 op, .string n])] w fun e w' => e = .returned (.bool (namOk n)) ∧ Below w.heap.size w w' := by
 refine qab fun R HR => ?_
 go_enter Tryz.func107, Tryz.ntmps107
 go_wp2_with (go_at_call 49; refine (I_word_ok _ _ hn).mono ?_; rintro _ _ ⟨rfl, rfl⟩)
 all_goals (try go_returns)
 all_goals exact HR.out _ _ ⟨rfl, bbel⟩

theorem I_formOk_mem (op : Int) (n m : ByteArray) (w : World) (hn : n.size ≤ maxLen) (hm : m.size ≤ maxLen) :
  Calls Tryz.prog 107 #[.iface 142 (.agg #[.int .i64 op, .string n, .string m])] w fun e w' => e = .returned (.bool (namOk n && namOk m)) ∧ Below w.heap.size w w' := by
 refine qab fun R HR => ?_
 go_enter Tryz.func107, Tryz.ntmps107
 go_wp2_with (go_at_call 49; refine (I_word_ok _ _ ?_).mono ?_; (first | exact hn | exact hm); rintro _ _ ⟨rfl, rfl⟩)
 all_goals (try go_returns)
 all_goals exact HR.out _ _ ⟨qah (by first | (simp [true_and, *]; done) | (simp_all [true_and]; done) | (simp_all [true_and]; omega) | (simp [true_and, *]; intros; omega)), bbel⟩

theorem I_formOk_pln (op : Int) (w : World) :
  Calls Tryz.prog 107 #[.iface 160 (.agg #[.int .i64 op])] w fun e w' => e = .returned (.bool true) ∧ Below w.heap.size w w' := by
 refine qab fun R HR => ?_
 go_enter Tryz.func107, Tryz.ntmps107
 go_wp2
 all_goals (try go_returns)
 all_goals exact HR.out _ _ ⟨rfl, bbel⟩

@[go_sem] theorem eg_ins : Tryz.prog.eqGuardType Tryz.prog.depth 91 = false := by kernel_rfl
@[go_sem] theorem eq_ins (a1 a2 b1 b2 : Int) (a3 a4 b3 b4 : ByteArray) (w : World) : (Op.equalIn 10000 91 (.agg #[.int .i64 a1, .int .i64 a2, .string a3, .string a4]) (.agg #[.int .i64 b1, .int .i64 b2, .string b3, .string b4])).run Tryz.prog w = .ok (a1 == b1 && a2 == b2 && a3.toList == b3.toList && a4.toList == b4.toList) w := by
 have iu3 := Tryz.underlying3
 have ia3 := Tryz.isAgg3
 have iz3 := Tryz.sizeOf3
 have iu9 := Tryz.underlying9
 have ia9 := Tryz.isAgg9
 have iz9 := Tryz.sizeOf9
 have hS : Tryz.prog.underlying 91 = some (.struct (Tryz.prog.fieldsOf 91)) := by kernel_rfl
 have hp : Tryz.prog.stoodInHeld 91 = false := by kernel_rfl
 rw [show (10000 : Nat) = 9999 + 1 from rfl, run_equalIn_agg w 9999 91 _ _ hS hp]
 simp only [Program.fieldsOf, Tryz.underlying91]
 go_simp
 by_cases h1 : a1 = b1 <;> by_cases h2 : a2 = b2 <;> by_cases h3 : a3.toList = b3.toList <;> by_cases h4 : a4.toList = b4.toList <;> simp [h1, h2, h3, h4]

theorem I_InsOk_num (op a : Int) (n m : ByteArray) (w : World) (hn : n.size ≤ maxLen) (hm : m.size ≤ maxLen) (hv : formV op a n m = .iface 138 (.agg #[.int .i64 op, .int .i64 a])) (hfin : ((n.toList.isEmpty && m.toList.isEmpty) && (decide (rangeLo op ≤ a) && decide (a ≤ rangeHi op))) = insOk op a n m) :
  Calls Tryz.prog 87 #[.agg #[.int .i64 op, .int .i64 a, .string n, .string m]] w fun e w' => e = .returned (.bool (insOk op a n m)) ∧ Below w.heap.size w w' := by
 have HF := qhd hfin
 clear hfin
 refine qab fun R HR => ?_
 go_enter Tryz.func87, Tryz.ntmps87
 go_wp2_with fail
 refine (I_formOf _ _ _ _ _).mono ?_
 rw [hv]
 rintro _ w1 ⟨rfl, hb⟩
 clear hv
 have hbs := (hb).size; (try simp only [qsz] at hbs); obtain ⟨hbd, hbo, hbg, hbp, hbx, hby⟩ := bf1 (n := w.heap.size) hb
 go_wp2_with fail
 obtain ⟨bb, hbb⟩ : ∃ bb : Bool, bb = (n.toList.isEmpty && m.toList.isEmpty) := ⟨_, rfl⟩
 have heq : ∀ w, (binOp .eql 91 (.agg #[.int .i64 op, .int .i64 a, .string ⟨#[]⟩, .string ⟨#[]⟩]) (.agg #[.int .i64 op, .int .i64 a, .string n, .string m])).run Tryz.prog w = .ok (.bool bb) w := by
  intro w; rw [hbb]; simp only [run_eql_struct, eq_ins]; simp [Result.andThen, ByteArray.toList_eq]
 obtain ⟨rb, hrb⟩ : ∃ rb : Bool, rb = (decide (rangeLo op ≤ a) && decide (a ≤ rangeHi op)) := ⟨_, rfl⟩
 have HF2 := HF.out
 rw [← hbb, ← hrb] at HF2
 have HF3 := qhd HF2
 have HRB := qhd hrb
 clear hbb hrb HF2 HF
 cases hB : bb
 all_goals subst hB
 all_goals
  first | (go_region_with (first | (go_at_call 106; refine (I_insOf_num _ _ n m _).mono ?_; rintro _ w2 ⟨rfl, hd⟩; have hds := (hd).size; (try simp only [qsz] at hds); obtain ⟨hdd, hdo, hdg, hdp, hdx, hdy⟩ := bf1 (n := w.heap.size) hd) | (go_at_call 107; refine (I_formOk_num _ _ _).mono ?_; (try rw [← HRB.out]); rintro _ w3 ⟨rfl, he⟩))) | fail
 all_goals go_wp2
 all_goals (try go_returns)
 all_goals exact HR.out _ _ ⟨qah (by rw [← HF3.out]; simp [HRB.out]), bbel⟩

theorem I_InsOk_cls (op a : Int) (n m : ByteArray) (w : World) (hn : n.size ≤ maxLen) (hm : m.size ≤ maxLen) (hv : formV op a n m = .iface 140 (.agg #[.int .i64 op, .string n])) (hfin : ((0 == a && m.toList.isEmpty) && (namOk n)) = insOk op a n m) :
  Calls Tryz.prog 87 #[.agg #[.int .i64 op, .int .i64 a, .string n, .string m]] w fun e w' => e = .returned (.bool (insOk op a n m)) ∧ Below w.heap.size w w' := by
 have HF := qhd hfin
 clear hfin
 refine qab fun R HR => ?_
 go_enter Tryz.func87, Tryz.ntmps87
 go_wp2_with fail
 refine (I_formOf _ _ _ _ _).mono ?_
 rw [hv]
 rintro _ w1 ⟨rfl, hb⟩
 clear hv
 have hbs := (hb).size; (try simp only [qsz] at hbs); obtain ⟨hbd, hbo, hbg, hbp, hbx, hby⟩ := bf1 (n := w.heap.size) hb
 go_wp2_with fail
 obtain ⟨bb, hbb⟩ : ∃ bb : Bool, bb = (0 == a && m.toList.isEmpty) := ⟨_, rfl⟩
 have heq : ∀ w, (binOp .eql 91 (.agg #[.int .i64 op, .int .i64 0, .string n, .string ⟨#[]⟩]) (.agg #[.int .i64 op, .int .i64 a, .string n, .string m])).run Tryz.prog w = .ok (.bool bb) w := by
  intro w; rw [hbb]; simp only [run_eql_struct, eq_ins]; simp [Result.andThen, ByteArray.toList_eq]
 obtain ⟨rb, hrb⟩ : ∃ rb : Bool, rb = (namOk n) := ⟨_, rfl⟩
 have HF2 := HF.out
 rw [← hbb, ← hrb] at HF2
 have HF3 := qhd HF2
 have HRB := qhd hrb
 clear hbb hrb HF2 HF
 cases hB : bb
 all_goals subst hB
 all_goals
  first | (go_region_with (first | (go_at_call 106; refine (I_insOf_cls _ a _ m _).mono ?_; rintro _ w2 ⟨rfl, hd⟩; have hds := (hd).size; (try simp only [qsz] at hds); obtain ⟨hdd, hdo, hdg, hdp, hdx, hdy⟩ := bf1 (n := w.heap.size) hd) | (go_at_call 107; refine (I_formOk_cls _ _ _ hn).mono ?_; (try rw [← HRB.out]); rintro _ w3 ⟨rfl, he⟩))) | fail
 all_goals go_wp2
 all_goals (try go_returns)
 all_goals exact HR.out _ _ ⟨qah (by rw [← HF3.out]; simp [HRB.out]), bbel⟩

theorem I_InsOk_mem (op a : Int) (n m : ByteArray) (w : World) (hn : n.size ≤ maxLen) (hm : m.size ≤ maxLen) (hv : formV op a n m = .iface 142 (.agg #[.int .i64 op, .string n, .string m])) (hfin : ((0 == a) && (namOk n && namOk m)) = insOk op a n m) :
  Calls Tryz.prog 87 #[.agg #[.int .i64 op, .int .i64 a, .string n, .string m]] w fun e w' => e = .returned (.bool (insOk op a n m)) ∧ Below w.heap.size w w' := by
 have HF := qhd hfin
 clear hfin
 refine qab fun R HR => ?_
 go_enter Tryz.func87, Tryz.ntmps87
 go_wp2_with fail
 refine (I_formOf _ _ _ _ _).mono ?_
 rw [hv]
 rintro _ w1 ⟨rfl, hb⟩
 clear hv
 have hbs := (hb).size; (try simp only [qsz] at hbs); obtain ⟨hbd, hbo, hbg, hbp, hbx, hby⟩ := bf1 (n := w.heap.size) hb
 go_wp2_with fail
 obtain ⟨bb, hbb⟩ : ∃ bb : Bool, bb = (0 == a) := ⟨_, rfl⟩
 have heq : ∀ w, (binOp .eql 91 (.agg #[.int .i64 op, .int .i64 0, .string n, .string m]) (.agg #[.int .i64 op, .int .i64 a, .string n, .string m])).run Tryz.prog w = .ok (.bool bb) w := by
  intro w; rw [hbb]; simp only [run_eql_struct, eq_ins]; simp [Result.andThen, ByteArray.toList_eq]
 obtain ⟨rb, hrb⟩ : ∃ rb : Bool, rb = (namOk n && namOk m) := ⟨_, rfl⟩
 have HF2 := HF.out
 rw [← hbb, ← hrb] at HF2
 have HF3 := qhd HF2
 have HRB := qhd hrb
 clear hbb hrb HF2 HF
 cases hB : bb
 all_goals subst hB
 all_goals
  first | (go_region_with (first | (go_at_call 106; refine (I_insOf_mem _ a _ _ _).mono ?_; rintro _ w2 ⟨rfl, hd⟩; have hds := (hd).size; (try simp only [qsz] at hds); obtain ⟨hdd, hdo, hdg, hdp, hdx, hdy⟩ := bf1 (n := w.heap.size) hd) | (go_at_call 107; refine (I_formOk_mem _ _ _ _ hn hm).mono ?_; (try rw [← HRB.out]); rintro _ w3 ⟨rfl, he⟩))) | fail
 all_goals go_wp2
 all_goals (try go_returns)
 all_goals exact HR.out _ _ ⟨qah (by rw [← HF3.out]; simp [HRB.out]), bbel⟩

theorem I_InsOk_pln (op a : Int) (n m : ByteArray) (w : World) (hn : n.size ≤ maxLen) (hm : m.size ≤ maxLen) (hv : formV op a n m = .iface 160 (.agg #[.int .i64 op])) (hfin : ((0 == a && n.toList.isEmpty && m.toList.isEmpty) && (true)) = insOk op a n m) :
  Calls Tryz.prog 87 #[.agg #[.int .i64 op, .int .i64 a, .string n, .string m]] w fun e w' => e = .returned (.bool (insOk op a n m)) ∧ Below w.heap.size w w' := by
 have HF := qhd hfin
 clear hfin
 refine qab fun R HR => ?_
 go_enter Tryz.func87, Tryz.ntmps87
 go_wp2_with fail
 refine (I_formOf _ _ _ _ _).mono ?_
 rw [hv]
 rintro _ w1 ⟨rfl, hb⟩
 clear hv
 have hbs := (hb).size; (try simp only [qsz] at hbs); obtain ⟨hbd, hbo, hbg, hbp, hbx, hby⟩ := bf1 (n := w.heap.size) hb
 go_wp2_with fail
 obtain ⟨bb, hbb⟩ : ∃ bb : Bool, bb = (0 == a && n.toList.isEmpty && m.toList.isEmpty) := ⟨_, rfl⟩
 have heq : ∀ w, (binOp .eql 91 (.agg #[.int .i64 op, .int .i64 0, .string ⟨#[]⟩, .string ⟨#[]⟩]) (.agg #[.int .i64 op, .int .i64 a, .string n, .string m])).run Tryz.prog w = .ok (.bool bb) w := by
  intro w; rw [hbb]; simp only [run_eql_struct, eq_ins]; simp [Result.andThen, ByteArray.toList_eq]
 obtain ⟨rb, hrb⟩ : ∃ rb : Bool, rb = (true) := ⟨_, rfl⟩
 have HF2 := HF.out
 rw [← hbb, ← hrb] at HF2
 have HF3 := qhd HF2
 have HRB := qhd hrb
 clear hbb hrb HF2 HF
 cases hB : bb
 all_goals subst hB
 all_goals
  first | (go_region_with (first | (go_at_call 106; refine (I_insOf_pln _ a n m _).mono ?_; rintro _ w2 ⟨rfl, hd⟩; have hds := (hd).size; (try simp only [qsz] at hds); obtain ⟨hdd, hdo, hdg, hdp, hdx, hdy⟩ := bf1 (n := w.heap.size) hd) | (go_at_call 107; refine (I_formOk_pln _ _).mono ?_; rintro _ w3 ⟨rfl, he⟩))) | fail
 all_goals go_wp2
 all_goals (try go_returns)
 all_goals exact HR.out _ _ ⟨qah (by rw [← HF3.out]; simp [HRB.out]), bbel⟩

theorem I_InsOk_nil (op a : Int) (n m : ByteArray) (w : World) (hv : formV op a n m = .nilIface) (hfin : insOk op a n m = false) :
  Calls Tryz.prog 87 #[.agg #[.int .i64 op, .int .i64 a, .string n, .string m]] w fun e w' => e = .returned (.bool (insOk op a n m)) ∧ Below w.heap.size w w' := by
 have HF := qhd hfin
 clear hfin
 refine qab fun R HR => ?_
 go_enter Tryz.func87, Tryz.ntmps87
 go_wp2_with fail
 refine (I_formOf _ _ _ _ _).mono ?_
 rw [hv]
 rintro _ w1 ⟨rfl, hb⟩
 clear hv
 have hbs := (hb).size; (try simp only [qsz] at hbs); obtain ⟨hbd, hbo, hbg, hbp, hbx, hby⟩ := bf1 (n := w.heap.size) hb
 go_wp2_with fail
 all_goals first | (go_region_with (fail)) | skip
 all_goals go_wp2
 all_goals (try go_returns)
 all_goals exact HR.out _ _ ⟨qah (by rw [HF.out]), bbel⟩

theorem I_InsOk (op a : Int) (n m : ByteArray) (w : World) (hn : n.size ≤ maxLen) (hm : m.size ≤ maxLen) :
  Calls Tryz.prog 87 #[.agg #[.int .i64 op, .int .i64 a, .string n, .string m]] w fun e w' => e = .returned (.bool (insOk op a n m)) ∧ Below w.heap.size w w' := by
 by_cases h1 : opNum op = true
 ·refine I_InsOk_num op a n m w hn hm (by simp [formV, h1]) ?_
  simp only [opNum, Bool.or_eq_true, beq_iff_eq] at h1
  rcases h1 with ((((h1 | h1) | h1) | h1) | h1) | h1 <;> subst h1 <;> simp [insOk, rangeLo, rangeHi] <;> (rw [Bool.eq_iff_iff]; simp; try (constructor <;> (intro h; simp_all)))
 by_cases h2 : opCls op = true
 ·refine I_InsOk_cls op a n m w hn hm (by simp [formV, h1, h2]) ?_
  simp only [opCls, Bool.or_eq_true, beq_iff_eq] at h2
  rcases h2 with h2 | h2 <;> subst h2 <;> simp [insOk] <;> (rw [Bool.eq_iff_iff]; simp; try (constructor <;> (intro h; simp_all)))
 by_cases h3 : opMem op = true
 ·refine I_InsOk_mem op a n m w hn hm (by simp [formV, h1, h2, h3]) ?_
  simp only [opMem, Bool.or_eq_true, beq_iff_eq] at h3
  rcases h3 with (h3 | h3) | h3 <;> subst h3 <;> simp [insOk] <;> (rw [Bool.eq_iff_iff]; simp; try (constructor <;> (intro h; simp_all)))
 by_cases h4 : opPln op = true
 ·refine I_InsOk_pln op a n m w hn hm (by simp [formV, h1, h2, h3, h4]) ?_
  simp only [opPln, Bool.or_eq_true, beq_iff_eq] at h4
  rcases h4 with ((h4 | h4) | h4) | h4 <;> subst h4 <;> simp [insOk] <;> (rw [Bool.eq_iff_iff]; simp; try (intros; constructor <;> (intro h; exact h.symm)))
 ·refine I_InsOk_nil op a n m w (by simp [formV, h1, h2, h3, h4]) ?_
  simp [opNum, opCls, opMem, opPln] at h1 h2 h3 h4
  simp [insOk, h1, h2, h3, h4]

theorem I_tagsOk (xs : List DTagTag) (v : Value) (w : World) (hv : Sl 2 rTagTag 0 w v xs) :
  Calls Tryz.prog 120 #[v] w fun e w' => e = .returned (.bool (tagsOk xs)) ∧ Below w.heap.size w w' := by
 obtain ⟨a, len, cap, rfl, hl, h1, h2, h3⟩ := id hv
 have m1 : len ≤ 9223372036854775807 := by unfold maxLen at h2; omega
 have HL := qhd hl
 have H1 := qhd h1
 clear h2 hl h1
 refine qab fun R HR => ?_
 go_enter Tryz.func120, Tryz.ntmps120
 go_wp2_with fail
 go_loopw [7] (fun i wr => ∃ k : Nat, k ≤ len ∧ i = .int .i64 k ∧ EachTo (fun _ t => tagOkD t) xs k = true ∧ Below w.heap.size w wr) (fun i _ => len - (intOf i).toNat)
 case atStart => exact ⟨0, Nat.zero_le _, rfl, rfl, bbel⟩
 case round =>
  obtain ⟨k, hk, rfl, ha, hb⟩ := hrel
  have HA := qhd ha
  clear ha
  have hbx := hb.size
  by_cases hlt : k < len
  ·obtain ⟨b, off, rfl, hlo, hbl, hr⟩ := h3.stays qaq (Keeps.of_below hb) (by omega)
   obtain ⟨x, cs, e0, e1, e2, e3⟩ := hr k hlt
   obtain ⟨rfl, b1⟩ := e3
   have q1 : wr.cell? ⟨b, off + k * 2, none⟩ = some (.int .i64 x.fKind) := e2 0 _ rfl
   have q2 : wr.cell? ⟨b, off + k * 2 + 1, none⟩ = some (.string x.fName) := e2 1 _ rfl
   have E0 := qhd e0
   clear e0 e1 e2 hr
   go_wp2_with fail
   refine (I_TagOk x.fKind x.fName _ b1).mono ?_
   rintro _ wA ⟨rfl, hA⟩
   have hz := hA.size
   clear q1 q2
   cases hx : tagOk x.fKind x.fName
   ·have HX := qhd hx
    clear hx
    go_wp2
    all_goals (try go_returns)
    all_goals exact HR.out _ _ ⟨qah (qal E0.out HX.out).symm, bbel⟩
   ·have HX := qhd hx
    clear hx
    go_wp2
    go_roundw
    case measure => simp [intOf]; omega
    case rel => exact ⟨k + 1, by omega, by go_num, EachTo.step HA.out E0.out HX.out, bbel⟩
  ·obtain rfl : k = len := by omega
   go_wp2
   all_goals (try go_returns)
   all_goals exact HR.out _ _ ⟨qah (qav HA.out HL.out).symm, bbel⟩

theorem I_codeOk (m : DClsMethod) (v1 v2 v3 : Value) (w : World) (s1 : Sl 2 rKndKind 0 w v1 m.fArgs) (s2 : Sl 4 rClsIns 0 w v2 m.fCode) (s3 : Sl 3 rClsMap 0 w v3 m.fMaps) :
  Calls Tryz.prog 113 #[.agg #[.string m.fName, v1, .int .i64 m.fRet.fKind, .string m.fRet.fName, .int .i64 m.fLocals, .int .i64 m.fStack, v2, v3]] w fun e w' => e = .returned (.bool (codeOk m)) ∧ Below w.heap.size w w' := by
 obtain ⟨na1, nl1, nc1, rfl⟩ := s1.form
 obtain ⟨na3, nl3, nc3, rfl⟩ := s3.form
 obtain ⟨a, len, cap, rfl, hl, h1, h2, h3⟩ := id s2
 have m1 : len ≤ 9223372036854775807 := by unfold maxLen at h2; omega
 have HL := qhd hl
 have H1 := qhd h1
 clear h2 hl h1
 refine qab fun R HR => ?_
 go_enter Tryz.func113, Tryz.ntmps113
 go_wp2_with fail
 all_goals first
  | (try go_returns
     exact HR.out _ _ ⟨qah (by unfold codeOk; rw [HL.out]; simp; intros; omega), bbel⟩)
  | skip
 go_loopw [18] (fun i wr => ∃ k : Nat, k ≤ len ∧ i = .int .i64 k ∧ EachTo (fun _ i => insIn m.fLocals m.fCode.length i) m.fCode k = true ∧ Below w.heap.size w wr ∧ wr.cell? ⟨w.heap.size, 4, none⟩ = some (.int .i64 m.fLocals) ∧ wr.cell? ⟨w.heap.size, 6, none⟩ = some (.slice a len cap)) (fun i _ => len - (intOf i).toNat)
 case atStart => exact ⟨0, Nat.zero_le _, rfl, rfl, bbel, by go_simp, by go_simp⟩
 case round =>
  obtain ⟨k, hk, rfl, ha, hb, c4, c6⟩ := hrel
  have HA := qhd ha
  clear ha
  have hbx := hb.size
  have hbw := block_lt_of_cell c4
  by_cases hlt : k < len
  ·obtain ⟨b, off, rfl, hlo, hbl, hr⟩ := h3.stays qau (Keeps.of_below hb) (by omega)
   obtain ⟨⟨op, ar, nm, mem⟩, cs, e0, e1, e2, e3⟩ := hr k hlt
   obtain ⟨rfl, b1, b2⟩ := e3
   have q1 : wr.cell? ⟨b, off + k * 4, none⟩ = some (.int .i64 op) := e2 0 _ rfl
   have q2 : wr.cell? ⟨b, off + k * 4 + 1, none⟩ = some (.int .i64 ar) := e2 1 _ rfl
   have q3 : wr.cell? ⟨b, off + k * 4 + 2, none⟩ = some (.string nm) := e2 2 _ rfl
   have q4 : wr.cell? ⟨b, off + k * 4 + 3, none⟩ = some (.string mem) := e2 3 _ rfl
   have E0 := qhd e0
   clear e0 e1 e2 hr
   go_wp2_with fail
   refine (I_InsOk op ar nm mem _ b1 b2).mono ?_
   rintro _ wA ⟨rfl, hA⟩
   have hz := hA.size
   have hz' : wr.heap.size < wA.heap.size := by simp at hz; omega
   have r4 : wA.cell? ⟨w.heap.size, 4, none⟩ = some (.int .i64 m.fLocals) := (hA.cell (by simp; omega)).trans (by go_simp)
   have r6 : wA.cell? ⟨w.heap.size, 6, none⟩ = some (.slice (some ⟨b, off, none⟩) len cap) := (hA.cell (by simp; omega)).trans (by go_simp)
   have p1 : wA.cell? ⟨wr.heap.size, 0, none⟩ = some (.int .i64 op) := (hA.cell (by simp)).trans (by go_simp)
   have p2 : wA.cell? ⟨wr.heap.size, 1, none⟩ = some (.int .i64 ar) := (hA.cell (by simp)).trans (by go_simp)
   clear q1 q2 q3 q4 c4 c6
   cases hx : insOk op ar nm mem
   ·have HX := qhd hx
    clear hx
    go_wp2
    all_goals (try go_returns)
    all_goals exact HR.out _ _ ⟨qah (by unfold codeOk; rw [qal E0.out (by simp [insIn, insOkD, HX.out])]; simp), bbel⟩
   ·have HX := qhd hx
    clear hx
    by_cases o1 : op = 2 ∨ op = 3 ∨ op = 11 ∨ op = 12 ∨ op = 13
    ·rcases o1 with rfl | rfl | rfl | rfl | rfl
     all_goals
      go_wp2
      all_goals first
       | (try go_returns
          exact HR.out _ _ ⟨qah (by unfold codeOk; rw [qal E0.out (by have h5 := HL.out; simp [insIn]; intros; omega)]; simp), bbel⟩)
       | (go_roundw
          case measure => simp [intOf]; omega
          case rel => exact ⟨k + 1, by omega, by go_num, EachTo.step HA.out E0.out (by have h5 := HL.out; simp [insIn, insOkD, HX.out]; omega), bbel, r4, r6⟩)
    ·have o2 : (op == 2) = false := by simp; omega
     have o3 : (op == 3) = false := by simp; omega
     have o11 : (op == 11) = false := by simp; omega
     have o12 : (op == 12) = false := by simp; omega
     have o13 : (op == 13) = false := by simp; omega
     have p2' : ¬ op = 2 := by omega
     have p3' : ¬ op = 3 := by omega
     have p11' : ¬ op = 11 := by omega
     have p12' : ¬ op = 12 := by omega
     have p13' : ¬ op = 13 := by omega
     clear o1
     go_wp2
     go_roundw
     case measure => simp [intOf]; omega
     case rel => exact ⟨k + 1, by omega, by go_num, EachTo.step HA.out E0.out (by simp [insIn, insOkD, HX.out, o2, o3, o11, o12, o13]), bbel, r4, r6⟩
  ·obtain rfl : k = len := by omega
   go_wp2
   all_goals (try go_returns)
   all_goals exact HR.out _ _ ⟨qah (by unfold codeOk; rw [qav HA.out HL.out, HL.out]; simp; omega), bbel⟩

theorem I_mapsOk (m : DClsMethod) (v1 v2 v3 : Value) (w : World) (s1 : Sl 2 rKndKind 0 w v1 m.fArgs) (s2 : Sl 4 rClsIns 0 w v2 m.fCode) (s3 : Sl 3 rClsMap 0 w v3 m.fMaps) :
  Calls Tryz.prog 114 #[.agg #[.string m.fName, v1, .int .i64 m.fRet.fKind, .string m.fRet.fName, .int .i64 m.fLocals, .int .i64 m.fStack, v2, v3]] w fun e w' => e = .returned (.bool (mapsOk m)) ∧ Below w.heap.size w w' := by
 obtain ⟨na1, nl1, nc1, rfl⟩ := s1.form
 obtain ⟨na2, nl2, nc2, rfl⟩ := s2.form
 obtain ⟨hl2, _, hm2⟩ := s2.len
 have m2 : nl2 ≤ 9223372036854775807 := by unfold maxLen at hm2; omega
 obtain ⟨a, len, cap, rfl, hl, h1, h2, h3⟩ := id s3
 have m1 : len ≤ 9223372036854775807 := by unfold maxLen at h2; omega
 have HL := qhd hl
 have HL2 := qhd hl2
 have H1 := qhd h1
 clear h2 hl h1 hl2 hm2
 refine qab fun R HR => ?_
 go_enter Tryz.func114, Tryz.ntmps114
 go_wp2_with fail
 all_goals first
  | (try go_returns
     exact HR.out _ _ ⟨qah (by unfold mapsOk; rw [HL.out]; simp; intros; omega), bbel⟩)
  | skip
 have hlen : len ≤ 5 := by omega
 go_loopw [3, 13] (fun z i wr => ∃ k : Nat, k ≤ len ∧ i = .int .i64 k ∧ z = .int .i64 (lastAt m.fMaps k) ∧ EachTo (mapIn m) m.fMaps k = true ∧ Below w.heap.size w wr ∧ wr.cell? ⟨w.heap.size, 4, none⟩ = some (.int .i64 m.fLocals) ∧ wr.cell? ⟨w.heap.size, 5, none⟩ = some (.int .i64 m.fStack) ∧ wr.cell? ⟨w.heap.size, 6, none⟩ = some (.slice na2 nl2 nc2) ∧ wr.cell? ⟨w.heap.size, 7, none⟩ = some (.slice a len cap)) (fun _ i _ => len - (intOf i).toNat)
 case atStart => exact ⟨0, Nat.zero_le _, rfl, rfl, rfl, bbel, by go_simp, by go_simp, by go_simp, by go_simp⟩
 case round =>
  obtain ⟨k, hk, rfl, rfl, ha, hb, c4, c5, c6, c7⟩ := hrel
  have HA := qhd ha
  clear ha
  have hbx := hb.size
  have hbw := block_lt_of_cell c4
  by_cases hlt : k < len
  ·obtain ⟨b, off, rfl, hlo, hbl, hr⟩ := h3.stays qas (Keeps.of_below hb) (by omega)
   obtain ⟨⟨xat, xl, xs⟩, cs, e0, e1, e2, e3⟩ := hr k hlt
   obtain ⟨u1, u2, rfl, t1, t2⟩ := e3
   obtain ⟨ua1, ul1, uc1, rfl⟩ := t1.form
   obtain ⟨ua2, ul2, uc2, rfl⟩ := t2.form
   obtain ⟨tl1, _, tm1⟩ := t1.len
   obtain ⟨tl2, _, tm2⟩ := t2.len
   have TL1 := qhd tl1
   have TL2 := qhd tl2
   have tm1' : ul1 ≤ 9223372036854775807 := by unfold maxLen at tm1; omega
   have tm2' : ul2 ≤ 9223372036854775807 := by unfold maxLen at tm2; omega
   have q1 : wr.cell? ⟨b, off + k * 3, none⟩ = some (.int .i64 xat) := e2 0 _ rfl
   have q2 : wr.cell? ⟨b, off + k * 3 + 1, none⟩ = some (.slice ua1 ul1 uc1) := e2 1 _ rfl
   have q3 : wr.cell? ⟨b, off + k * 3 + 2, none⟩ = some (.slice ua2 ul2 uc2) := e2 2 _ rfl
   have E0 := qhd e0
   have LZ : Hid (lastAt m.fMaps (k + 1) = xat) := qhd (by simp only [lastAt, e0])
   clear e0 e1 e2 hr tl1 tl2 tm1 tm2
   obtain ⟨z, hz⟩ : ∃ z, z = lastAt m.fMaps k := ⟨_, rfl⟩
   rw [← hz]
   have HZ := qhd hz
   clear hz
   go_wp2_with fail
   all_goals first
    | (try go_returns
       exact HR.out _ _ ⟨qah (by unfold mapsOk; rw [qal E0.out (by have h2 := HL2.out; have h3 := TL1.out; have h4 := TL2.out; have h5 := HZ.out; unfold mapIn; simp only [h2, h3, h4, ← h5]; simp; intros; omega)]; simp), bbel⟩)
    | skip
   have hzx : z < xat := by assumption
   have hzc : z < xat ∧ xat < (nl2 : Int) := by assumption
   have hlc : (ul1 : Int) = m.fLocals := by assumption
   have hst : (ul2 : Int) ≤ m.fStack := by assumption
   have LM : Hid (tagsOk xl = true → tagsOk xs = true → mapIn m k ⟨xat, xl, xs⟩ = true) := qhd (by
    intro i1 i2
    have h2 := HL2.out; have h3 := TL1.out; have h4 := TL2.out; have h5 := HZ.out
    unfold mapIn
    simp only [h2, h3, h4, ← h5, i1, i2]
    simp; omega)
   have hlc' := qhd hlc
   clear hlc
   refine (I_tagsOk xl _ _ (t1.stays qaq (Keeps.of_below' (B := wr.heap.size) (bbel) (Nat.le_refl _)))).mono ?_
   rintro _ wA ⟨rfl, hA⟩
   have hz := hA.size
   have hz' : wr.heap.size < wA.heap.size := by simp at hz; omega
   have d4 : wA.cell? ⟨w.heap.size, 4, none⟩ = some (.int .i64 m.fLocals) := (hA.cell (by simp; omega)).trans (by go_simp)
   have d5 : wA.cell? ⟨w.heap.size, 5, none⟩ = some (.int .i64 m.fStack) := (hA.cell (by simp; omega)).trans (by go_simp)
   have d6 : wA.cell? ⟨w.heap.size, 6, none⟩ = some (.slice na2 nl2 nc2) := (hA.cell (by simp; omega)).trans (by go_simp)
   have d7 : wA.cell? ⟨w.heap.size, 7, none⟩ = some (.slice (some ⟨b, off, none⟩) len cap) := (hA.cell (by simp; omega)).trans (by go_simp)
   have p3 : wA.cell? ⟨wr.heap.size, 2, none⟩ = some (.slice ua2 ul2 uc2) := (hA.cell (by simp)).trans (by go_simp)
   have hRA : Below wr.heap.size wr wA := bbel
   have hE : Below w.heap.size w wA := hb.trans (hRA.mono hb.size)
   clear q1 q2 q3 c4 c5 c6 c7 hA
   cases hx : tagsOk xl
   ·have HX := qhd hx
    clear hx
    go_wp2
    all_goals (try go_returns)
    all_goals exact HR.out _ _ ⟨qah (by unfold mapsOk; rw [qal E0.out (by unfold mapIn; simp [HX.out])]; simp), hE⟩
   have HX := qhd hx
   clear hx
   go_wp2_with fail
   refine (I_tagsOk xs _ _ (t2.stays qaq (Keeps.of_below hRA))).mono ?_
   rintro _ wB ⟨rfl, hB⟩
   have hzB := hB.size
   have c4 := qad hB d4
   have c5 := qad hB d5
   have c6 := qad hB d6
   have c7 := qad hB d7
   have hEB : Below w.heap.size w wB := hE.trans (hB.mono hE.size)
   clear d4 d5 d6 d7 p3 hB hE
   cases hx : tagsOk xs
   ·have HY := qhd hx
    clear hx
    go_wp2
    all_goals (try go_returns)
    all_goals exact HR.out _ _ ⟨qah (by unfold mapsOk; rw [qal E0.out (by unfold mapIn; simp [HY.out])]; simp), hEB⟩
   have HY := qhd hx
   clear hx
   go_wp2
   go_roundw
   case measure => simp [intOf]; omega
   case rel => exact ⟨k + 1, by omega, by go_num, by rw [LZ.out], EachTo.step HA.out E0.out (LM.out HX.out HY.out), hEB, c4, c5, c6, c7⟩
  ·obtain rfl : k = len := by omega
   go_wp2
   all_goals (try go_returns)
   all_goals exact HR.out _ _ ⟨qah (by unfold mapsOk; rw [qav HA.out HL.out, HL.out]; simp; omega), bbel⟩

theorem I_MthOk (m : DClsMethod) (v1 v2 v3 : Value) (w : World) (s1 : Sl 2 rKndKind 0 w v1 m.fArgs) (s2 : Sl 4 rClsIns 0 w v2 m.fCode) (s3 : Sl 3 rClsMap 0 w v3 m.fMaps) (b1 : m.fName.size ≤ maxLen) (b2 : m.fRet.fName.size ≤ maxLen) :
  Calls Tryz.prog 100 #[.agg #[.string m.fName, v1, .int .i64 m.fRet.fKind, .string m.fRet.fName, .int .i64 m.fLocals, .int .i64 m.fStack, v2, v3]] w fun e w' => e = .returned (.bool (mthOk m)) ∧ Below w.heap.size w w' := by
 obtain ⟨na2, nl2, nc2, rfl⟩ := s2.form
 obtain ⟨na3, nl3, nc3, rfl⟩ := s3.form
 obtain ⟨a, len, cap, rfl, hl, h1, h2, h3⟩ := id s1
 have m1 : len ≤ 9223372036854775807 := by unfold maxLen at h2; omega
 have HL := qhd hl
 have H1 := qhd h1
 clear h2 hl h1
 refine qab fun R HR => ?_
 go_enter Tryz.func100, Tryz.ntmps100
 go_wp2_with fail
 refine (I_NamOk _ _ b1).mono ?_
 rintro _ _ ⟨rfl, rfl⟩
 cases hx : namOk m.fName
 ·have HX := qhd hx
  clear hx
  go_wp2
  all_goals (try go_returns)
  all_goals exact HR.out _ _ ⟨qah (by simp [mthOk, HX.out]), bbel⟩
 have HX := qhd hx
 clear hx
 by_cases hlen : 3 < len
 ·have HN := qhd hlen
  go_wp2
  all_goals (try go_returns)
  all_goals exact HR.out _ _ ⟨qah (by have h5 := HL.out; have h6 := HN.out; have h7 : ¬ m.fArgs.length ≤ 3 := (by omega); simp [mthOk, h7]), bbel⟩
 go_wp2_with fail
 refine (I_KndOk _ _ _ b2).mono ?_
 rintro _ w1 ⟨rfl, g1⟩
 have g1s := (g1).size; (try simp only [qsz] at g1s)
 obtain ⟨g1ad, g1ao, g1ag, g1ap, g1ax, g1ay⟩ := bf1 (n := w.heap.size) g1
 have hE1 : Below w.heap.size w w1 := bbel
 cases hx : kndOk m.fRet.fKind m.fRet.fName
 ·have HY := qhd hx
  clear hx
  go_wp2
  all_goals (try go_returns)
  all_goals exact HR.out _ _ ⟨qah (by simp [mthOk, kndOkD, HY.out]), hE1⟩
 have HY := qhd hx
 clear hx
 go_wp2_with fail
 have z1 : w1.cell? ⟨w.heap.size, 1, none⟩ = some (.slice a len cap) := by go_simp
 have z4 : w1.cell? ⟨w.heap.size, 4, none⟩ = some (.int .i64 m.fLocals) := by go_simp
 have z5 : w1.cell? ⟨w.heap.size, 5, none⟩ = some (.int .i64 m.fStack) := by go_simp
 have z0 : w1.cell? ⟨w.heap.size, 0, none⟩ = some (.string m.fName) := by go_simp
 have z2 : w1.cell? ⟨w.heap.size, 2, none⟩ = some (.int .i64 m.fRet.fKind) := by go_simp
 have z3 : w1.cell? ⟨w.heap.size, 3, none⟩ = some (.string m.fRet.fName) := by go_simp
 have z6 : w1.cell? ⟨w.heap.size, 6, none⟩ = some (.slice na2 nl2 nc2) := by go_simp
 have z7 : w1.cell? ⟨w.heap.size, 7, none⟩ = some (.slice na3 nl3 nc3) := by go_simp
 clear g1ad g1ag g1ax g1ay g1ao g1ap
 have keepZ : ∀ W, Below w1.heap.size w1 W → ∀ (o : Nat) (v : Value), w1.cell? ⟨w.heap.size, o, none⟩ = some v → W.cell? ⟨w.heap.size, o, none⟩ = some v := fun W hW o v h => qad hW h
 have KZ := qhd keepZ
 have Z0 := qhd z0
 have Z1 := qhd z1
 have Z2 := qhd z2
 have Z3 := qhd z3
 have Z4 := qhd z4
 have Z5 := qhd z5
 have Z6 := qhd z6
 have Z7 := qhd z7
 have hz1 := hE1.size
 have hzb := block_lt_of_cell z0
 clear keepZ
 go_loopw [24] (fun i wr => ∃ k : Nat, k ≤ len ∧ i = .int .i64 k ∧ EachTo (fun _ t => kndOkD t) m.fArgs k = true ∧ Below w1.heap.size w1 wr) (fun i _ => len - (intOf i).toNat)
 case atStart => exact ⟨0, Nat.zero_le _, rfl, rfl, bbel⟩
 clear z0 z1 z2 z3 z4 z5 z6 z7
 case round =>
  obtain ⟨k, hk, rfl, ha, hb⟩ := hrel
  have HA := qhd ha
  clear ha
  have hbx := hb.size
  by_cases hlt : k < len
  ·obtain ⟨b, off, rfl, hlo, hbl, hr⟩ := h3.stays qar ((Keeps.of_below hE1).trans (Keeps.of_below hb)) (by omega)
   obtain ⟨x, cs, e0, e1, e2, e3⟩ := hr k hlt
   obtain ⟨rfl, bx⟩ := e3
   have q1 : wr.cell? ⟨b, off + k * 2, none⟩ = some (.int .i64 x.fKind) := e2 0 _ rfl
   have q2 : wr.cell? ⟨b, off + k * 2 + 1, none⟩ = some (.string x.fName) := e2 1 _ rfl
   have E0 := qhd e0
   clear e0 e1 e2 hr
   go_wp2_with fail
   refine (I_KndOk x.fKind x.fName _ bx).mono ?_
   rintro _ wA ⟨rfl, hA⟩
   have hz := hA.size
   have hWA : Below w1.heap.size w1 wA := bbel
   clear q1 q2
   cases hx : kndOk x.fKind x.fName
   ·have HZ := qhd hx
    clear hx
    go_wp2
    all_goals (try go_returns)
    all_goals exact HR.out _ _ ⟨qah (by have h5 : kndsOk m.fArgs = false := qal E0.out HZ.out; simp [mthOk, h5]), hE1.trans (hWA.mono hz1)⟩
   ·have HZ := qhd hx
    clear hx
    go_wp2
    go_roundw
    case measure => simp [intOf]; omega
    case rel => exact ⟨k + 1, by omega, by go_num, EachTo.step HA.out E0.out HZ.out, hWA⟩
  ·obtain rfl : k = len := by omega
   have AK : Hid (kndsOk m.fArgs = true) := qhd (qav HA.out HL.out)
   have hWr : Below w.heap.size w wr := hE1.trans (hb.mono hz1)
   have y0 := KZ.out wr hb 0 _ Z0.out
   have y1 := KZ.out wr hb 1 _ Z1.out
   have y2 := KZ.out wr hb 2 _ Z2.out
   have y3 := KZ.out wr hb 3 _ Z3.out
   have y4 := KZ.out wr hb 4 _ Z4.out
   have y5 := KZ.out wr hb 5 _ Z5.out
   have y6 := KZ.out wr hb 6 _ Z6.out
   have y7 := KZ.out wr hb 7 _ Z7.out
   by_cases hc1 : m.fLocals < (k : Int) + 1
   ·have HC := qhd hc1
    go_wp2
    all_goals (try go_returns)
    all_goals exact HR.out _ _ ⟨qah (by have h5 := HL.out; have h6 := HC.out; have h7 : ¬ (m.fArgs.length : Int) + 1 ≤ m.fLocals := (by rw [h5]; omega); simp [mthOk, h7]), hWr⟩
   by_cases hc2 : 6 < m.fLocals
   ·have HC := qhd hc2
    go_wp2
    all_goals (try go_returns)
    all_goals exact HR.out _ _ ⟨qah (by have h6 := HC.out; have h7 : ¬ m.fLocals ≤ 6 := (by omega); simp [mthOk, h7]), hWr⟩
   by_cases hc3 : m.fStack < 1
   ·have HC := qhd hc3
    go_wp2
    all_goals (try go_returns)
    all_goals exact HR.out _ _ ⟨qah (by have h6 := HC.out; have h7 : ¬ 1 ≤ m.fStack := (by omega); simp [mthOk, h7]), hWr⟩
   by_cases hc4 : 5 < m.fStack
   ·have HC := qhd hc4
    go_wp2
    all_goals (try go_returns)
    all_goals exact HR.out _ _ ⟨qah (by have h6 := HC.out; have h7 : ¬ m.fStack ≤ 5 := (by omega); simp [mthOk, h7]), hWr⟩
   go_wp2_with fail
   refine (I_codeOk m _ _ _ _ (s1.stays qar (Keeps.of_below hWr)) (s2.stays qau (Keeps.of_below hWr)) (s3.stays qas (Keeps.of_below hWr))).mono ?_
   rintro _ wC ⟨rfl, hC⟩
   have hWC : Below w.heap.size w wC := hWr.trans (hC.mono hWr.size)
   replace y0 := qad hC y0
   replace y1 := qad hC y1
   replace y2 := qad hC y2
   replace y3 := qad hC y3
   replace y4 := qad hC y4
   replace y5 := qad hC y5
   replace y6 := qad hC y6
   replace y7 := qad hC y7
   cases hx : codeOk m
   ·have HW := qhd hx
    clear hx
    go_wp2
    all_goals (try go_returns)
    all_goals exact HR.out _ _ ⟨qah (by simp [mthOk, HW.out]), hWC⟩
   have HW := qhd hx
   clear hx
   go_wp2_with fail
   refine (I_mapsOk m _ _ _ _ (s1.stays qar (Keeps.of_below hWC)) (s2.stays qau (Keeps.of_below hWC)) (s3.stays qas (Keeps.of_below hWC))).mono ?_
   rintro _ wD ⟨rfl, hD⟩
   have hWD : Below w.heap.size w wD := hWC.trans (hD.mono hWC.size)
   clear y0 y1 y2 y3 y4 y5 y6 y7
   go_wp2
   all_goals (try go_returns)
   all_goals exact HR.out _ _ ⟨qah (by
    have h5 := HL.out
    simp only [mthOk, HX.out, HY.out, AK.out, HW.out, kndOkD, h5]
    have i1 : k ≤ 3 := by omega
    have i2 : (k : Int) + 1 ≤ m.fLocals := by omega
    have i3 : m.fLocals ≤ 6 := by omega
    have i4 : 1 ≤ m.fStack := by omega
    have i5 : m.fStack ≤ 5 := by omega
    simp [i1, i2, i3, i4, i5]), hWD⟩

end Go.Proofs.YtfbonocadpknbaaGreatDoor
