
/-
  The walks of the laws FnTagOk, FnKndText, FnTagOf over drawn kinds and tags: each returns true and leaves what was there as it was. Condition: the codes can be read.
-/
import Derived.Test.YtchhappoidncjaaLawB
import Derived.Test.YtchhappoidncjaaDrawK
import Derived.Deep.RegionHeld3
namespace Go.Proofs.Ytchhappoidncjaa
set_option linter.unusedSimpArgs false
set_option linter.unusedVariables false
open Go.RowKit

@[go_sem] theorem eg_tag : Try.prog.eqGuardType Try.prog.depth 41 = false := by kernel_rfl
@[go_sem] theorem eq_tag (a c : Int) (b d : ByteArray) (w : World) : (Op.equalIn 10000 41 (.agg #[.int .i64 a, .string b]) (.agg #[.int .i64 c, .string d])).run Try.prog w = .ok (a == c && b.toList == d.toList) w := by
  have u3 := Try.underlying3
  have a3 := Try.isAgg3
  have z3 := Try.sizeOf3
  have u9 := Try.underlying9
  have a9 := Try.isAgg9
  have z9 := Try.sizeOf9
  have hS : Try.prog.underlying 41 = some (.struct (Try.prog.fieldsOf 41)) := by kernel_rfl
  have hp : Try.prog.stoodInHeld 41 = false := by kernel_rfl
  rw [show (10000 : Nat) = 9999 + 1 from rfl, run_equalIn_agg w 9999 41 _ _ hS hp]
  simp only [Program.fieldsOf, Try.underlying41]
  go_simp
  by_cases h1 : a = c <;> by_cases h2 : b.toList = d.toList <;> simp [h1, h2]

@[go_sem] theorem eg_knd : Try.prog.eqGuardType Try.prog.depth 38 = false := by kernel_rfl
@[go_sem] theorem eq_knd (a c : Int) (b d : ByteArray) (w : World) : (Op.equalIn 10000 38 (.agg #[.int .i64 a, .string b]) (.agg #[.int .i64 c, .string d])).run Try.prog w = .ok (a == c && b.toList == d.toList) w := by
  have u3 := Try.underlying3
  have a3 := Try.isAgg3
  have z3 := Try.sizeOf3
  have u9 := Try.underlying9
  have a9 := Try.isAgg9
  have z9 := Try.sizeOf9
  have hS : Try.prog.underlying 38 = some (.struct (Try.prog.fieldsOf 38)) := by kernel_rfl
  have hp : Try.prog.stoodInHeld 38 = false := by kernel_rfl
  rw [show (10000 : Nat) = 9999 + 1 from rfl, run_equalIn_agg w 9999 38 _ _ hS hp]
  simp only [Program.fieldsOf, Try.underlying38]
  go_simp
  by_cases h1 : a = c <;> by_cases h2 : b.toList = d.toList <;> simp [h1, h2]

theorem neq_tag (a : Int) (b : ByteArray) (w : World) : (binOp .neq 41 (.agg #[.int .i64 a, .string b]) (.agg #[.int .i64 a, .string b])).run Try.prog w = .ok (.bool false) w := by
  simp only [run_neq_struct, eq_tag]; simp [Result.andThen]
theorem neq_knd (a : Int) (b : ByteArray) (w : World) : (binOp .neq 38 (.agg #[.int .i64 a, .string b]) (.agg #[.int .i64 a, .string b])).run Try.prog w = .ok (.bool false) w := by
  simp only [run_neq_struct, eq_knd]; simp [Result.andThen]

theorem namOk_a : namOk ⟨#[97]⟩ = true := by decide

set_option maxHeartbeats 400000 in
theorem L_loOk (w : World) : Calls Try.prog 17 #[] w fun e w' => e = .returned (.bool true) ∧ Below w.heap.size w w' := by
  refine calls_hide fun R HR => ?_
  go_enter Try.func17, Try.ntmps17
  go_wp2_with (go_at_call 26; refine (I_NamOk _ _ (by decide)).mono ?_; rintro e w' ⟨rfl, rfl⟩)
  all_goals (try go_returns)
  all_goals exact HR.out _ _ ⟨ret_bool namOk_a, by (repeat' (first | (with_reducible exact Below.refl _ _) | (with_reducible refine Below.alloc ?_ ?_ _) | (with_reducible refine Below.setCell ?_ ?_ _) | (with_reducible refine Below.drew ?_) | (refine below_hyp (by assumption) ?_ ?_) | go_size))⟩

theorem keep_cell {x x' : World} {a : Addr} {v : Value} (hb : Below x.heap.size x x') (h : x.cell? a = some v) : x'.cell? a = some v := (hb.cell (block_lt_of_cell h)).trans h
theorem keep_below {N : Nat} {W x x' : World} (hb : Below x.heap.size x x') (h : Below N W x) (hN : N ≤ W.heap.size) : Below N W x' := h.trans (hb.mono (by have := h.size; omega))

theorem tagText_inj {k k' : Int} {n n' : ByteArray} (h : tagOk k n = true) (h' : tagOk k' n' = true) :
    (k == k' && n.toList == n'.toList) = ((tagText k n).toList == (tagText k' n').toList) := by
  unfold tagText
  rw [if_pos h, if_pos h']
  have q33 : (ByteArray.mk #[33]).toList = [33] := by rw [ByteArray.toList_eq]
  have q35 : (ByteArray.mk #[35]).toList = [35] := by rw [ByteArray.toList_eq]
  have q63 : (ByteArray.mk #[63]).toList = [63] := by rw [ByteArray.toList_eq]
  have hsm : ∀ (c : UInt8) (m : ByteArray), namOk m = true → m.toList = [c] → 97 ≤ c.toNat := by
    intro c m hm he
    unfold namOk at hm
    rw [ByteArray.toList_eq] at he
    simp [he, small] at hm
    omega
  have n33 : ∀ m, namOk m = true → m.toList ≠ [33] := fun m hm he => by have := hsm 33 m hm he; revert this; decide
  have n35 : ∀ m, namOk m = true → m.toList ≠ [35] := fun m hm he => by have := hsm 35 m hm he; revert this; decide
  have n63 : ∀ m, namOk m = true → m.toList ≠ [63] := fun m hm he => by have := hsm 63 m hm he; revert this; decide
  have m33 : ∀ m, namOk m = true → [33] ≠ m.toList := fun m hm he => n33 m hm he.symm
  have m35 : ∀ m, namOk m = true → [35] ≠ m.toList := fun m hm he => n35 m hm he.symm
  have m63 : ∀ m, namOk m = true → [63] ≠ m.toList := fun m hm he => n63 m hm he.symm
  rcases tagOk_range h with rfl | rfl | rfl | rfl <;> rcases tagOk_range h' with rfl | rfl | rfl | rfl <;> simp [tagOk] at h h' <;> simp [q33, q35, q63, h, h', n33, n35, n63, m33, m35, m63]

set_option maxHeartbeats 400000 in
theorem L_FnTagOk (v v' : Value) (w : World) (hv : Bytes w v) (hv' : Bytes w v') :
    Calls Try.prog 8 #[v, v'] w fun e w' => e = .returned (.bool true) ∧ Below w.heap.size w w' := by
  obtain ⟨a, len, cap, rfl, g1, g2, g3⟩ := id hv
  obtain ⟨a', len', cap', rfl, g1', g2', g3'⟩ := id hv'
  have m1 : len ≤ 9223372036854775807 := by unfold maxLen at g2; omega
  have m2 : len' ≤ 9223372036854775807 := by unfold maxLen at g2'; omega
  clear g2 g2' g3 g3'
  refine calls_hide fun R HR => ?_
  go_enter Try.func8, Try.ntmps8
  go_wp2_with fail
  all_goals first
    | (try go_returns
       exact HR.out _ _ ⟨rfl, by (repeat' (first | (with_reducible exact Below.refl _ _) | (with_reducible refine Below.alloc ?_ ?_ _) | (with_reducible refine Below.setCell ?_ ?_ _) | (with_reducible refine Below.drew ?_) | (refine below_hyp (by assumption) ?_ ?_) | go_size))⟩)
    | skip
  refine (S_DrawTagOk _ _ hv).mono ?_
  rintro _ w1 ⟨⟨_, ⟨k, n, rfl, hk, hk2, hk3⟩, rfl⟩, hb⟩
  have hbs := (hb).size; (try simp only [World.size_alloc, World.size_setCell, World.size_drew] at hbs)
  go_wp2_with fail
  refine (S_DrawTagOk _ _ (by exact (bytes_below hb hv').alloc _)).mono ?_
  rintro _ w2 ⟨⟨_, ⟨k', n', rfl, hk', hk2', hk3'⟩, rfl⟩, hd⟩
  have hds := (hd).size; (try simp only [World.size_alloc, World.size_setCell, World.size_drew] at hds)
  obtain ⟨hdac, hdad, hdao, hdaf, hdag, hdap, hdaz, hdax, hday⟩ := bfacts (n := w1.heap.size) (k := 1) hd (by go_size) (by go_size); replace hdad := hdad (by decide); replace hdag := hdag (by decide); replace hdax := hdax (by decide); clear hdac hdaf hdaz
  go_wp2_with fail
  obtain ⟨W, hW⟩ : ∃ W : World, W = w2.alloc (Obj.cells #[Value.int IntKind.i64 k', Value.string n'] 41) := ⟨_, rfl⟩
  have c1 : W.cell? ⟨w1.heap.size, 0, none⟩ = some (.int .i64 k) := by rw [hW]; go_simp
  have c2 : W.cell? ⟨w1.heap.size, 1, none⟩ = some (.string n) := by rw [hW]; go_simp
  have c3 : W.cell? ⟨w2.heap.size, 0, none⟩ = some (.int .i64 k') := by rw [hW]; go_simp
  have c4 : W.cell? ⟨w2.heap.size, 1, none⟩ = some (.string n') := by rw [hW]; go_simp
  have hWb : Below w.heap.size w W := by rw [hW]; (repeat' (first | (with_reducible exact Below.refl _ _) | (with_reducible refine Below.alloc ?_ ?_ _) | (with_reducible refine Below.setCell ?_ ?_ _) | (with_reducible refine Below.drew ?_) | (refine below_hyp (by assumption) ?_ ?_) | go_size))
  have hWbs := hWb.size
  rw [← hW]
  have hn : n.size ≤ maxLen := by unfold maxLen; omega
  have hn' : n'.size ≤ maxLen := by unfold maxLen; omega
  clear hW hdao hdap hday hdad hdag hdax
  have keepwA : ∀ x x' : World, Below x.heap.size x x' → (x.cell? ⟨w1.heap.size, 0, none⟩ = some (.int .i64 k) ∧ x.cell? ⟨w1.heap.size, 1, none⟩ = some (.string n) ∧ x.cell? ⟨w2.heap.size, 0, none⟩ = some (.int .i64 k') ∧ x.cell? ⟨w2.heap.size, 1, none⟩ = some (.string n') ∧ Below W.heap.size W x) → (x'.cell? ⟨w1.heap.size, 0, none⟩ = some (.int .i64 k) ∧ x'.cell? ⟨w1.heap.size, 1, none⟩ = some (.string n) ∧ x'.cell? ⟨w2.heap.size, 0, none⟩ = some (.int .i64 k') ∧ x'.cell? ⟨w2.heap.size, 1, none⟩ = some (.string n') ∧ Below W.heap.size W x') := fun x x' hb ⟨q0, q1, q2, q3, e⟩ => ⟨keep_cell hb q0, keep_cell hb q1, keep_cell hb q2, keep_cell hb q3, keep_below hb e (Nat.le_refl _)⟩
  go_region_held3 (fun x => x.cell? ⟨w1.heap.size, 0, none⟩ = some (.int .i64 k) ∧ x.cell? ⟨w1.heap.size, 1, none⟩ = some (.string n) ∧ x.cell? ⟨w2.heap.size, 0, none⟩ = some (.int .i64 k') ∧ x.cell? ⟨w2.heap.size, 1, none⟩ = some (.string n') ∧ Below W.heap.size W x) (first | exact ⟨c1, c2, c3, c4, (Below.refl _ _).drew⟩ | exact keepwA _ _ (by assumption) (by assumption)) (first | (go_at_call 33; refine (I_TagOk _ _ _ ?_).mono ?_; (first | exact hn | exact hn'); rintro _ _ ⟨rfl, _⟩) | (go_at_call 34; refine (S_TagOk _ _ _ ?_).mono ?_; (first | exact hn | exact hn'); rintro _ _ ⟨rfl, _⟩))
  all_goals (rename_i wA _ hHwA; obtain ⟨d1, d2, d3, d4, hwA⟩ := hHwA; clear keepwA c1 c2 c3 c4; have hwAs := hwA.size)
  go_wp2_with fail
  refine (S_TagOk _ _ _ hn).mono ?_
  rintro _ wB ⟨rfl, hB⟩
  replace d1 := keep_cell hB d1; replace d2 := keep_cell hB d2; replace d3 := keep_cell hB d3; replace d4 := keep_cell hB d4; have hBs := hB.size
  by_cases ht : tagOk k n = true
  case neg =>
    have ht' : tagOk k n = false := by simpa using ht
    clear ht
    go_wp2_with (go_at_call 17; refine (L_loOk _).mono ?_; rintro _ w5 ⟨rfl, h5⟩)
    all_goals (try go_returns)
    all_goals exact HR.out _ _ ⟨rfl, by (repeat' (first | (with_reducible exact Below.refl _ _) | (with_reducible refine Below.alloc ?_ ?_ _) | (with_reducible refine Below.setCell ?_ ?_ _) | (with_reducible refine Below.drew ?_) | (refine below_hyp (by assumption) ?_ ?_) | go_size))⟩
  go_wp2_with fail
  refine (S_TagOk _ _ _ hn').mono ?_
  rintro _ wC ⟨rfl, hC⟩
  replace d1 := keep_cell hC d1; replace d2 := keep_cell hC d2; replace d3 := keep_cell hC d3; replace d4 := keep_cell hC d4; have hCs := hC.size
  by_cases ht2 : tagOk k' n' = true
  case neg =>
    have ht' : tagOk k' n' = false := by simpa using ht2
    clear ht2
    go_wp2_with (go_at_call 17; refine (L_loOk _).mono ?_; rintro _ w5 ⟨rfl, h5⟩)
    all_goals (try go_returns)
    all_goals exact HR.out _ _ ⟨rfl, by (repeat' (first | (with_reducible exact Below.refl _ _) | (with_reducible refine Below.alloc ?_ ?_ _) | (with_reducible refine Below.setCell ?_ ?_ _) | (with_reducible refine Below.drew ?_) | (refine below_hyp (by assumption) ?_ ?_) | go_size))⟩
  go_wp2_with fail
  have hi := tagText_inj ht ht2
  obtain ⟨bb, hbb⟩ : ∃ bb : Bool, bb = (k == k' && n.toList == n'.toList) := ⟨_, rfl⟩
  have heq : ∀ w, (binOp .eql 41 (.agg #[.int .i64 k, .string n]) (.agg #[.int .i64 k', .string n'])).run Try.prog w = .ok (.bool bb) w := by
    intro w; rw [hbb]; simp only [run_eql_struct, eq_tag]; rfl
  rw [← hbb] at hi
  clear hbb
  have HI := Lib.hid hi
  clear hi
  have keepwD : ∀ x x' : World, Below x.heap.size x x' → (x.cell? ⟨w1.heap.size, 0, none⟩ = some (.int .i64 k) ∧ x.cell? ⟨w1.heap.size, 1, none⟩ = some (.string n) ∧ x.cell? ⟨w2.heap.size, 0, none⟩ = some (.int .i64 k') ∧ x.cell? ⟨w2.heap.size, 1, none⟩ = some (.string n') ∧ Below wC.heap.size wC x) → (x'.cell? ⟨w1.heap.size, 0, none⟩ = some (.int .i64 k) ∧ x'.cell? ⟨w1.heap.size, 1, none⟩ = some (.string n) ∧ x'.cell? ⟨w2.heap.size, 0, none⟩ = some (.int .i64 k') ∧ x'.cell? ⟨w2.heap.size, 1, none⟩ = some (.string n') ∧ Below wC.heap.size wC x') := fun x x' hb ⟨q0, q1, q2, q3, e⟩ => ⟨keep_cell hb q0, keep_cell hb q1, keep_cell hb q2, keep_cell hb q3, keep_below hb e (Nat.le_refl _)⟩
  go_region_held3 (fun x => x.cell? ⟨w1.heap.size, 0, none⟩ = some (.int .i64 k) ∧ x.cell? ⟨w1.heap.size, 1, none⟩ = some (.string n) ∧ x.cell? ⟨w2.heap.size, 0, none⟩ = some (.int .i64 k') ∧ x.cell? ⟨w2.heap.size, 1, none⟩ = some (.string n') ∧ Below wC.heap.size wC x) (first | exact ⟨d1, d2, d3, d4, (Below.refl _ _).drew⟩ | exact keepwD _ _ (by assumption) (by assumption)) (first | (go_at_call 31; refine (I_TagText _ _ _ ?_).mono ?_; (first | exact hn | exact hn'); rintro _ _ ⟨rfl, _⟩))
  all_goals (rename_i wD _ hHwD; obtain ⟨e1, e2, e3, e4, hwD⟩ := hHwD; clear keepwD d1 d2 d3 d4; have hwDs := hwD.size)
  go_wp2
  all_goals (try go_returns)
  all_goals exact HR.out _ _ ⟨ret_bool (by have := HI.out; simp_all), by (repeat' (first | (with_reducible exact Below.refl _ _) | (with_reducible refine Below.alloc ?_ ?_ _) | (with_reducible refine Below.setCell ?_ ?_ _) | (with_reducible refine Below.drew ?_) | (refine below_hyp (by assumption) ?_ ?_) | go_size))⟩

/-- of a tag that may be known the text is not empty, of another one it is -/
theorem tagText_empty (k : Int) (n : ByteArray) : ((tagText k n).toList.isEmpty != !tagOk k n) = false := by
  unfold tagText
  cases h : tagOk k n
  · simp [ByteArray.toList_eq]
  · have q33 : (ByteArray.mk #[33]).toList = [33] := by rw [ByteArray.toList_eq]
    have q35 : (ByteArray.mk #[35]).toList = [35] := by rw [ByteArray.toList_eq]
    have q63 : (ByteArray.mk #[63]).toList = [63] := by rw [ByteArray.toList_eq]
    have hne : namOk n = true → n.toList ≠ [] := by
      intro hm he
      unfold namOk at hm
      rw [ByteArray.toList_eq] at he
      have : n.size = 0 := by have := congrArg List.length he; simpa using this
      simp [this] at hm
    rcases tagOk_range h with rfl | rfl | rfl | rfl <;> simp [tagOk] at h <;> simp [q33, q35, q63, h, hne]

theorem toTag_ok {k : Int} {n : ByteArray} (h : kndOk k n = true) : tagOk (toK k n) (toN k n) = true ∧ tagText (toK k n) (toN k n) = kndText k n := by
  unfold toK toN
  rw [if_pos h, if_pos h]
  unfold kndOk at h
  unfold tagText tagOk kndText
  cases h1 : (k == 1 && n.toList.isEmpty)
  · rw [h1] at h
    simp at h
    obtain ⟨rfl, h2⟩ := h
    simp [h2]
  · simp at h1
    obtain ⟨rfl, h2⟩ := h1
    simp [h2]

set_option maxHeartbeats 400000 in
theorem L_FnTagOf (v v' : Value) (w : World) (hv : Bytes w v) (hv' : Bytes w v') :
    Calls Try.prog 11 #[v, v'] w fun e w' => e = .returned (.bool true) ∧ Below w.heap.size w w' := by
  obtain ⟨a, len, cap, rfl, g1, g2, g3⟩ := id hv
  obtain ⟨a', len', cap', rfl, g1', g2', g3'⟩ := id hv'
  have m1 : len ≤ 9223372036854775807 := by unfold maxLen at g2; omega
  have m2 : len' ≤ 9223372036854775807 := by unfold maxLen at g2'; omega
  clear g2 g2' g3 g3'
  refine calls_hide fun R HR => ?_
  go_enter Try.func11, Try.ntmps11
  go_wp2_with fail
  all_goals first
    | (try go_returns
       exact HR.out _ _ ⟨rfl, by (repeat' (first | (with_reducible exact Below.refl _ _) | (with_reducible refine Below.alloc ?_ ?_ _) | (with_reducible refine Below.setCell ?_ ?_ _) | (with_reducible refine Below.drew ?_) | (refine below_hyp (by assumption) ?_ ?_) | go_size))⟩)
    | skip
  refine (S_DrawTagOf _ _ hv).mono ?_
  rintro _ w1 ⟨⟨_, ⟨k, n, rfl, hk, hk2, hk3⟩, rfl⟩, hb⟩
  have hbs := (hb).size; (try simp only [World.size_alloc, World.size_setCell, World.size_drew] at hbs)
  go_wp2_with fail
  refine (S_DrawTagText _ _ (by exact (bytes_below hb hv').alloc _)).mono ?_
  rintro _ w2 ⟨⟨_, ⟨k', n', rfl, hk', hk2', hk3'⟩, rfl⟩, hd⟩
  have hds := (hd).size; (try simp only [World.size_alloc, World.size_setCell, World.size_drew] at hds)
  obtain ⟨hdac, hdad, hdao, hdaf, hdag, hdap, hdaz, hdax, hday⟩ := bfacts (n := w1.heap.size) (k := 1) hd (by go_size) (by go_size); replace hdad := hdad (by decide); replace hdag := hdag (by decide); replace hdax := hdax (by decide); clear hdac hdaf hdaz
  have hn : n.size ≤ maxLen := by unfold maxLen; omega
  have hn' : n'.size ≤ maxLen := by unfold maxLen; omega
  go_wp2_with fail
  refine (I_TagOf' _ _ _ hn).mono ?_
  rintro _ w3 ⟨rfl, he⟩
  have hes := (he).size; (try simp only [World.size_alloc, World.size_setCell, World.size_drew] at hes)
  obtain ⟨heac, head, heao, heaf, heag, heap, heaz, heax, heay⟩ := bfacts (n := w1.heap.size) (k := 1) he (by go_size) (by go_size); replace head := head (by decide); replace heag := heag (by decide); replace heax := heax (by decide); clear heac heaf heaz
  obtain ⟨hebc, hebd, hebo, hebf, hebg, hebp, hebz, hebx, heby⟩ := bfacts (n := w2.heap.size) (k := 1) he (by go_size) (by go_size); replace hebd := hebd (by decide); replace hebg := hebg (by decide); replace hebx := hebx (by decide); clear hebc hebf hebz
  have ht := toN_size (k := k) hn
  go_wp2_with fail
  obtain ⟨W, hW⟩ : ∃ W : World, W = w3.alloc (Obj.cells #[Value.int IntKind.i64 (toK k n), Value.string (toN k n)] 41) := ⟨_, rfl⟩
  have c1 : W.cell? ⟨w1.heap.size, 0, none⟩ = some (.int .i64 k) := by rw [hW]; go_simp
  have c2 : W.cell? ⟨w1.heap.size, 1, none⟩ = some (.string n) := by rw [hW]; go_simp
  have c3 : W.cell? ⟨w2.heap.size, 0, none⟩ = some (.int .i64 k') := by rw [hW]; go_simp
  have c4 : W.cell? ⟨w2.heap.size, 1, none⟩ = some (.string n') := by rw [hW]; go_simp
  have c5 : W.cell? ⟨w3.heap.size, 0, none⟩ = some (.int .i64 (toK k n)) := by rw [hW]; go_simp
  have c6 : W.cell? ⟨w3.heap.size, 1, none⟩ = some (.string (toN k n)) := by rw [hW]; go_simp
  have hWb : Below w.heap.size w W := by rw [hW]; (repeat' (first | (with_reducible exact Below.refl _ _) | (with_reducible refine Below.alloc ?_ ?_ _) | (with_reducible refine Below.setCell ?_ ?_ _) | (with_reducible refine Below.drew ?_) | (refine below_hyp (by assumption) ?_ ?_) | go_size))
  have hWbs := hWb.size
  rw [← hW]
  have q1 := neq_tag (toK k n) (toN k n)
  clear hW hdao hdap hday hdad hdag hdax heao heap heay head heag heax hebo hebp heby hebd hebg hebx
  have keepwA : ∀ x x' : World, Below x.heap.size x x' → (x.cell? ⟨w1.heap.size, 0, none⟩ = some (.int .i64 k) ∧ x.cell? ⟨w1.heap.size, 1, none⟩ = some (.string n) ∧ x.cell? ⟨w2.heap.size, 0, none⟩ = some (.int .i64 k') ∧ x.cell? ⟨w2.heap.size, 1, none⟩ = some (.string n') ∧ x.cell? ⟨w3.heap.size, 0, none⟩ = some (.int .i64 (toK k n)) ∧ x.cell? ⟨w3.heap.size, 1, none⟩ = some (.string (toN k n)) ∧ Below W.heap.size W x) → (x'.cell? ⟨w1.heap.size, 0, none⟩ = some (.int .i64 k) ∧ x'.cell? ⟨w1.heap.size, 1, none⟩ = some (.string n) ∧ x'.cell? ⟨w2.heap.size, 0, none⟩ = some (.int .i64 k') ∧ x'.cell? ⟨w2.heap.size, 1, none⟩ = some (.string n') ∧ x'.cell? ⟨w3.heap.size, 0, none⟩ = some (.int .i64 (toK k n)) ∧ x'.cell? ⟨w3.heap.size, 1, none⟩ = some (.string (toN k n)) ∧ Below W.heap.size W x') := fun x x' hb ⟨q0, q1, q2, q3, q4, q5, e⟩ => ⟨keep_cell hb q0, keep_cell hb q1, keep_cell hb q2, keep_cell hb q3, keep_cell hb q4, keep_cell hb q5, keep_below hb e (Nat.le_refl _)⟩
  go_region_held3 (fun x => x.cell? ⟨w1.heap.size, 0, none⟩ = some (.int .i64 k) ∧ x.cell? ⟨w1.heap.size, 1, none⟩ = some (.string n) ∧ x.cell? ⟨w2.heap.size, 0, none⟩ = some (.int .i64 k') ∧ x.cell? ⟨w2.heap.size, 1, none⟩ = some (.string n') ∧ x.cell? ⟨w3.heap.size, 0, none⟩ = some (.int .i64 (toK k n)) ∧ x.cell? ⟨w3.heap.size, 1, none⟩ = some (.string (toN k n)) ∧ Below W.heap.size W x) (first | exact ⟨c1, c2, c3, c4, c5, c6, (Below.refl _ _).drew⟩ | exact keepwA _ _ (by assumption) (by assumption)) (first | (go_at_call 22; refine (S_TagOf' _ _ _ ?_).mono ?_; (first | exact hn | exact hn' | exact ht); rintro _ _ ⟨rfl, _⟩) | (go_at_call 31; refine (I_TagText _ _ _ ?_).mono ?_; (first | exact hn | exact hn' | exact ht); rintro _ _ ⟨rfl, _⟩) | (go_at_call 29; refine (S_TagText _ _ _ ?_).mono ?_; (first | exact hn | exact hn' | exact ht); rintro _ _ ⟨rfl, _⟩) | (go_at_call 33; refine (I_TagOk _ _ _ ?_).mono ?_; (first | exact hn | exact hn' | exact ht); rintro _ _ ⟨rfl, _⟩) | (go_at_call 34; refine (S_TagOk _ _ _ ?_).mono ?_; (first | exact hn | exact hn' | exact ht); rintro _ _ ⟨rfl, _⟩))
  all_goals (rename_i wA _ hHwA; obtain ⟨d1, d2, d3, d4, d5, d6, hwA⟩ := hHwA; clear keepwA c1 c2 c3 c4 c5 c6; have hwAs := hwA.size)
  clear q1
  have q2 := tagText_empty k' n'
  go_wp2_with fail
  have keepwB : ∀ x x' : World, Below x.heap.size x x' → (x.cell? ⟨w1.heap.size, 0, none⟩ = some (.int .i64 k) ∧ x.cell? ⟨w1.heap.size, 1, none⟩ = some (.string n) ∧ x.cell? ⟨w2.heap.size, 0, none⟩ = some (.int .i64 k') ∧ x.cell? ⟨w2.heap.size, 1, none⟩ = some (.string n') ∧ x.cell? ⟨w3.heap.size, 0, none⟩ = some (.int .i64 (toK k n)) ∧ x.cell? ⟨w3.heap.size, 1, none⟩ = some (.string (toN k n)) ∧ Below wA.heap.size wA x) → (x'.cell? ⟨w1.heap.size, 0, none⟩ = some (.int .i64 k) ∧ x'.cell? ⟨w1.heap.size, 1, none⟩ = some (.string n) ∧ x'.cell? ⟨w2.heap.size, 0, none⟩ = some (.int .i64 k') ∧ x'.cell? ⟨w2.heap.size, 1, none⟩ = some (.string n') ∧ x'.cell? ⟨w3.heap.size, 0, none⟩ = some (.int .i64 (toK k n)) ∧ x'.cell? ⟨w3.heap.size, 1, none⟩ = some (.string (toN k n)) ∧ Below wA.heap.size wA x') := fun x x' hb ⟨q0, q1, q2, q3, q4, q5, e⟩ => ⟨keep_cell hb q0, keep_cell hb q1, keep_cell hb q2, keep_cell hb q3, keep_cell hb q4, keep_cell hb q5, keep_below hb e (Nat.le_refl _)⟩
  go_region_held3 (fun x => x.cell? ⟨w1.heap.size, 0, none⟩ = some (.int .i64 k) ∧ x.cell? ⟨w1.heap.size, 1, none⟩ = some (.string n) ∧ x.cell? ⟨w2.heap.size, 0, none⟩ = some (.int .i64 k') ∧ x.cell? ⟨w2.heap.size, 1, none⟩ = some (.string n') ∧ x.cell? ⟨w3.heap.size, 0, none⟩ = some (.int .i64 (toK k n)) ∧ x.cell? ⟨w3.heap.size, 1, none⟩ = some (.string (toN k n)) ∧ Below wA.heap.size wA x) (first | exact ⟨d1, d2, d3, d4, d5, d6, (Below.refl _ _).drew⟩ | exact keepwB _ _ (by assumption) (by assumption)) (first | (go_at_call 31; refine (I_TagText _ _ _ ?_).mono ?_; (first | exact hn | exact hn' | exact ht); rintro _ _ ⟨rfl, _⟩) | (go_at_call 34; refine (S_TagOk _ _ _ ?_).mono ?_; (first | exact hn | exact hn' | exact ht); rintro _ _ ⟨rfl, _⟩))
  all_goals (rename_i wB _ hHwB; obtain ⟨e1, e2, e3, e4, e5, e6, hwB⟩ := hHwB; clear keepwB d1 d2 d3 d4 d5 d6; have hwBs := hwB.size)
  go_wp2_with fail
  clear q2
  all_goals first
    | (exfalso
       have q := tagText_empty k' n'
       simp_all
       done)
    | skip
  refine (S_KndOk _ _ _ hn).mono ?_
  rintro _ wC ⟨rfl, hC⟩
  replace e1 := keep_cell hC e1; replace e2 := keep_cell hC e2; replace e3 := keep_cell hC e3; replace e4 := keep_cell hC e4; replace e5 := keep_cell hC e5; replace e6 := keep_cell hC e6; have hCs := hC.size
  by_cases hkk : kndOk k n = true
  case neg =>
    have hkk' : kndOk k n = false := by simpa using hkk
    have hz1 : toK k n = 0 := by unfold toK; rw [hkk']; rfl
    have hz2 : toN k n = ⟨#[]⟩ := by unfold toN; rw [hkk']; rfl
    rw [hz1] at e5
    rw [hz2] at e6
    clear hkk hz1 hz2
    go_wp2_with (go_at_call 17; refine (L_loOk _).mono ?_; rintro _ w5 ⟨rfl, h5⟩)
    all_goals (try go_returns)
    all_goals exact HR.out _ _ ⟨rfl, by (repeat' (first | (with_reducible exact Below.refl _ _) | (with_reducible refine Below.alloc ?_ ?_ _) | (with_reducible refine Below.setCell ?_ ?_ _) | (with_reducible refine Below.drew ?_) | (refine below_hyp (by assumption) ?_ ?_) | go_size))⟩
  obtain ⟨z1, z2⟩ := toTag_ok hkk
  go_wp2_with fail
  have keepwD : ∀ x x' : World, Below x.heap.size x x' → (x.cell? ⟨w1.heap.size, 0, none⟩ = some (.int .i64 k) ∧ x.cell? ⟨w1.heap.size, 1, none⟩ = some (.string n) ∧ x.cell? ⟨w2.heap.size, 0, none⟩ = some (.int .i64 k') ∧ x.cell? ⟨w2.heap.size, 1, none⟩ = some (.string n') ∧ x.cell? ⟨w3.heap.size, 0, none⟩ = some (.int .i64 (toK k n)) ∧ x.cell? ⟨w3.heap.size, 1, none⟩ = some (.string (toN k n)) ∧ Below wC.heap.size wC x) → (x'.cell? ⟨w1.heap.size, 0, none⟩ = some (.int .i64 k) ∧ x'.cell? ⟨w1.heap.size, 1, none⟩ = some (.string n) ∧ x'.cell? ⟨w2.heap.size, 0, none⟩ = some (.int .i64 k') ∧ x'.cell? ⟨w2.heap.size, 1, none⟩ = some (.string n') ∧ x'.cell? ⟨w3.heap.size, 0, none⟩ = some (.int .i64 (toK k n)) ∧ x'.cell? ⟨w3.heap.size, 1, none⟩ = some (.string (toN k n)) ∧ Below wC.heap.size wC x') := fun x x' hb ⟨q0, q1, q2, q3, q4, q5, e⟩ => ⟨keep_cell hb q0, keep_cell hb q1, keep_cell hb q2, keep_cell hb q3, keep_cell hb q4, keep_cell hb q5, keep_below hb e (Nat.le_refl _)⟩
  go_region_held3 (fun x => x.cell? ⟨w1.heap.size, 0, none⟩ = some (.int .i64 k) ∧ x.cell? ⟨w1.heap.size, 1, none⟩ = some (.string n) ∧ x.cell? ⟨w2.heap.size, 0, none⟩ = some (.int .i64 k') ∧ x.cell? ⟨w2.heap.size, 1, none⟩ = some (.string n') ∧ x.cell? ⟨w3.heap.size, 0, none⟩ = some (.int .i64 (toK k n)) ∧ x.cell? ⟨w3.heap.size, 1, none⟩ = some (.string (toN k n)) ∧ Below wC.heap.size wC x) (first | exact ⟨e1, e2, e3, e4, e5, e6, (Below.refl _ _).drew⟩ | exact keepwD _ _ (by assumption) (by assumption)) (first | (go_at_call 33; refine (I_TagOk _ _ _ ?_).mono ?_; (first | exact hn | exact hn' | exact ht); rintro _ _ ⟨rfl, _⟩) | (go_at_call 31; refine (I_TagText _ _ _ ?_).mono ?_; (first | exact hn | exact hn' | exact ht); rintro _ _ ⟨rfl, _⟩) | (go_at_call 21; refine (I_KndText _ _ _ ?_).mono ?_; (first | exact hn | exact hn' | exact ht); rintro _ _ ⟨rfl, _⟩))
  all_goals (rename_i wD _ hHwD; obtain ⟨f1, f2, f3, f4, f5, f6, hwD⟩ := hHwD; clear keepwD e1 e2 e3 e4 e5 e6; have hwDs := hwD.size)
  go_wp2
  all_goals (try go_returns)
  all_goals exact HR.out _ _ ⟨ret_bool (by simp), by (repeat' (first | (with_reducible exact Below.refl _ _) | (with_reducible refine Below.alloc ?_ ?_ _) | (with_reducible refine Below.setCell ?_ ?_ _) | (with_reducible refine Below.drew ?_) | (refine below_hyp (by assumption) ?_ ?_) | go_size))⟩

end Go.Proofs.Ytchhappoidncjaa
