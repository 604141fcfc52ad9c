
/-
  The walk of the law FnKndText over drawn kinds and texts: it returns true and leaves what was there as it was. Condition: the codes can be read.
-/
import Derived.Test.YtchhappoidncjaaLawC
namespace Go.Proofs.Ytchhappoidncjaa
set_option linter.unusedSimpArgs false
set_option linter.unusedVariables false
open Go.RowKit

/-- the kind that KndRead reads -/
def krK (s : ByteArray) : Int := if s.toList == [35] then 1 else if namOk s then 2 else 0
def krN (s : ByteArray) : ByteArray := if s.toList == [35] then ⟨#[]⟩ else if namOk s then s else ⟨#[]⟩
def krB (s : ByteArray) : Bool := s.toList == [35] || namOk s
theorem kndReadV_eq (s : ByteArray) : kndReadV s = .tuple #[.agg #[.int .i64 (krK s), .string (krN s)], .bool (krB s)] := by
  unfold kndReadV krK krN krB
  cases s.toList == [35] <;> cases namOk s <;> simp
theorem S_KndRead' (s : ByteArray) (w : World) (hs : s.size ≤ maxLen) :
    Calls Try.prog 42 #[.string s] w fun e w' => e = .returned (.tuple #[.agg #[.int .i64 (krK s), .string (krN s)], .bool (krB s)]) ∧ Below w.heap.size w w' := by
  have h := S_KndRead s w hs
  rw [kndReadV_eq] at h; exact h
theorem I_KndRead' (s : ByteArray) (w : World) (hs : s.size ≤ maxLen) :
    Calls Try.prog 41 #[.string s] w fun e w' => e = .returned (.tuple #[.agg #[.int .i64 (krK s), .string (krN s)], .bool (krB s)]) ∧ Below w.heap.size w w' := by
  have h := I_KndRead s w hs
  rw [kndReadV_eq] at h; exact h

theorem krN_size {s : ByteArray} (h : s.size ≤ maxLen) : (krN s).size ≤ maxLen := by
  unfold krN; split
  · exact Nat.zero_le _
  · split
    · exact h
    · exact Nat.zero_le _

theorem bytes_of_toList {a b : ByteArray} (h : a.toList = b.toList) : a = b := by
  rw [ByteArray.toList_eq, ByteArray.toList_eq] at h
  apply ByteArray.ext
  exact Array.toList_inj.1 h

theorem namOk_35 {s : ByteArray} (h : namOk s = true) : s.toList ≠ [35] := by
  intro he
  unfold namOk at h
  rw [ByteArray.toList_eq] at he
  simp [he, small] at h

theorem kr_read {s : ByteArray} (h : krB s = true) : kndOk (krK s) (krN s) = true ∧ kndText (krK s) (krN s) = s := by
  unfold krB at h
  unfold krK krN kndOk kndText
  cases h1 : (s.toList == [35])
  · rw [h1] at h
    simp at h
    simp [h]
  · have : s.toList = [35] := by simpa using h1
    have hs : s = ⟨#[35]⟩ := bytes_of_toList (by rw [this, ByteArray.toList_eq])
    simp [ByteArray.toList_eq, hs]

theorem kr_text {k : Int} {n : ByteArray} (h : kndOk k n = true) : krB (kndText k n) = true ∧ krK (kndText k n) = k ∧ krN (kndText k n) = n := by
  unfold kndOk at h
  unfold krB krK krN kndText
  cases h1 : (k == 1 && n.toList.isEmpty)
  · rw [h1] at h
    simp at h
    obtain ⟨rfl, h2⟩ := h
    have := namOk_35 h2
    simp [h2, this]
  · simp at h1
    obtain ⟨rfl, h2⟩ := h1
    have hn : n = ⟨#[]⟩ := bytes_of_toList (by rw [h2, ByteArray.toList_eq])
    subst hn
    simp [ByteArray.toList_eq]

theorem kndText_none {k : Int} {n : ByteArray} (h : kndOk k n = false) : kndText k n = ⟨#[]⟩ := kt_no (by simp [h])

theorem kndText_size {k : Int} {n : ByteArray} (h : n.size ≤ maxLen) : (kndText k n).size ≤ maxLen := by
  unfold kndText; split
  · exact (by decide : (ByteArray.mk #[35]).size ≤ maxLen)
  · split
    · exact h
    · exact Nat.zero_le _

theorem six {x : Int} (h : InPick 6 x) : x = 0 ∨ x = 1 ∨ x = 2 ∨ x = 3 ∨ x = 4 ∨ x = 5 := by
  obtain ⟨h1, h2, h3⟩ := h; omega

set_option maxHeartbeats 400000 in
theorem S_DrawKndRead (v : Value) (w : World) (hv : Bytes w v) :
    Calls Try.prog 40 #[v] w fun e w' => (∃ s : ByteArray, s.size ≤ 7 ∧ e = .returned (.string s)) ∧ Below w.heap.size w w' := by
  refine calls_hide fun R HR => ?_
  go_enter Try.func40, Try.ntmps40
  go_wp2_with fail
  refine (S_l20Open _ _ hv).mono ?_
  rintro e w1 ⟨rfl, h1, h2, h3⟩
  have h2s := (h2).size; (try simp only [World.size_alloc, World.size_setCell, World.size_drew] at h2s)
  go_wp2_with fail
  refine (S_pick _ 0 3 _ (by omega) h1 (by omega)).mono ?_
  rintro e w2 ⟨⟨x, hx, rfl⟩, h4, h5⟩
  have h5s := (h5).size; (try simp only [World.size_alloc, World.size_setCell, World.size_drew] at h5s)
  by_cases hx0 : x = 0
  · subst hx0
    go_wp2_with fail
    refine (S_pick _ 1 6 _ (by omega) (by (repeat' (first | assumption | (with_reducible refine Rd.alloc ?_ _) | (with_reducible refine Rd.setCell ?_ ?_ _) | (with_reducible refine Rd.drew ?_) | (refine rd_below (by assumption) ?_ ?_) | go_size))) (by omega)).mono ?_
    rintro e w3 ⟨⟨y, hy, rfl⟩, h6, h7⟩
    have h7s := (h7).size; (try simp only [World.size_alloc, World.size_setCell, World.size_drew] at h7s)
    obtain ⟨h7cc, h7cd, h7cf, h7cg, h7cz, h7cx, h7cy⟩ := efacts (n := w2.heap.size) (k := 1) h7 (by go_size) (by go_size) (by first | omega | (simp; omega)); replace h7cd := h7cd (by decide); replace h7cg := h7cg (by decide); replace h7cx := h7cx (by decide); clear h7cc h7cf h7cz
    rcases six hy with rfl | rfl | rfl | rfl | rfl | rfl
    all_goals go_wp2
    all_goals (try go_returns)
    all_goals exact HR.out _ _ ⟨⟨_, by decide, rfl⟩, by (repeat' (first | (with_reducible exact Ex.refl _ _ _) | (with_reducible exact Below.refl _ _) | (with_reducible refine Ex.alloc ?_ ?_ _) | (with_reducible refine Ex.setCell ?_ ?_ _) | (with_reducible refine Ex.drew ?_) | (with_reducible refine Below.alloc ?_ ?_ _) | (with_reducible refine Below.setCell ?_ ?_ _) | (with_reducible refine Below.drew ?_) | (refine ex_hyp (by assumption) ?_ ?_) | (refine ex_below (by assumption) ?_ ?_) | (refine below_ex (by assumption) ?_ ?_ ?_) | (refine below_hyp (by assumption) ?_ ?_) | go_size))⟩
  · have hx1 : (x == 0) = false := by simpa using hx0
    clear hx hx0
    go_wp2_with fail
    refine (S_l20Kind _ 1 99999 _ (by omega) (by omega) (by (repeat' (first | assumption | (with_reducible refine Rd.alloc ?_ _) | (with_reducible refine Rd.setCell ?_ ?_ _) | (with_reducible refine Rd.drew ?_) | (refine rd_below (by assumption) ?_ ?_) | go_size))) (by omega)).mono ?_
    rintro e w3 ⟨⟨_, ⟨k, n, rfl, hk, hk2, hk3⟩, rfl⟩, h6, h7⟩
    have h7s := (h7).size; (try simp only [World.size_alloc, World.size_setCell, World.size_drew] at h7s)
    go_wp2_with fail
    refine (S_KndText _ _ _ (by unfold maxLen; omega)).mono ?_
    rintro e w4 ⟨rfl, h8⟩
    have hsz : (kndText k n).size ≤ 7 := by
      unfold kndText; split
      · decide
      · split
        · omega
        · decide
    go_wp2
    all_goals (try go_returns)
    all_goals exact HR.out _ _ ⟨⟨_, hsz, rfl⟩, by (repeat' (first | (with_reducible exact Ex.refl _ _ _) | (with_reducible exact Below.refl _ _) | (with_reducible refine Ex.alloc ?_ ?_ _) | (with_reducible refine Ex.setCell ?_ ?_ _) | (with_reducible refine Ex.drew ?_) | (with_reducible refine Below.alloc ?_ ?_ _) | (with_reducible refine Below.setCell ?_ ?_ _) | (with_reducible refine Below.drew ?_) | (refine ex_hyp (by assumption) ?_ ?_) | (refine ex_below (by assumption) ?_ ?_) | (refine below_ex (by assumption) ?_ ?_ ?_) | (refine below_hyp (by assumption) ?_ ?_) | go_size))⟩

set_option maxHeartbeats 400000 in
theorem L_FnKndText (v v' : Value) (w : World) (hv : Bytes w v) (hv' : Bytes w v') :
    Calls Try.prog 10 #[v, v'] w fun e w' => e = .returned (.bool true) ∧ Below w.heap.size w w' := by
  obtain ⟨a, len, cap, rfl, g1, g2, g3⟩ := id hv
  obtain ⟨a', len', cap', rfl, g1', g2', g3'⟩ := id hv'
  have m1 : len ≤ 9223372036854775807 := by unfold maxLen at g2; omega
  have m2 : len' ≤ 9223372036854775807 := by unfold maxLen at g2'; omega
  clear g2 g2' g3 g3'
  refine calls_hide fun R HR => ?_
  go_enter Try.func10, Try.ntmps10
  go_wp2_with fail
  all_goals first
    | (try go_returns
       exact HR.out _ _ ⟨rfl, by (repeat' (first | (with_reducible exact Below.refl _ _) | (with_reducible refine Below.alloc ?_ ?_ _) | (with_reducible refine Below.setCell ?_ ?_ _) | (with_reducible refine Below.drew ?_) | (refine below_hyp (by assumption) ?_ ?_) | go_size))⟩)
    | skip
  refine (S_DrawKndText _ _ hv).mono ?_
  rintro _ w1 ⟨⟨_, ⟨k, n, rfl, hk, hk2, hk3⟩, rfl⟩, hb⟩
  have hbs := (hb).size; (try simp only [World.size_alloc, World.size_setCell, World.size_drew] at hbs)
  go_wp2_with fail
  refine (S_DrawKndRead _ _ (by exact (bytes_below hb hv').alloc _)).mono ?_
  rintro _ w2 ⟨⟨s, hs7, rfl⟩, hd⟩
  have hds := (hd).size; (try simp only [World.size_alloc, World.size_setCell, World.size_drew] at hds)
  obtain ⟨hdac, hdad, hdao, hdaf, hdag, hdap, hdaz, hdax, hday⟩ := bfacts (n := w1.heap.size) (k := 1) hd (by go_size) (by go_size); replace hdad := hdad (by decide); replace hdag := hdag (by decide); replace hdax := hdax (by decide); clear hdac hdaf hdaz
  have hn : n.size ≤ maxLen := by unfold maxLen; omega
  have hs : s.size ≤ maxLen := by unfold maxLen; omega
  go_wp2_with fail
  refine (I_KndRead' _ _ hs).mono ?_
  rintro _ w3 ⟨rfl, he⟩
  have hes := (he).size; (try simp only [World.size_alloc, World.size_setCell, World.size_drew] at hes)
  obtain ⟨heac, head, heao, heaf, heag, heap, heaz, heax, heay⟩ := bfacts (n := w1.heap.size) (k := 1) he (by go_size) (by go_size); replace head := head (by decide); replace heag := heag (by decide); replace heax := heax (by decide); clear heac heaf heaz
  go_wp2_with fail
  refine (S_KndRead' _ _ hs).mono ?_
  rintro _ w4 ⟨rfl, hf⟩
  have hfs := (hf).size; (try simp only [World.size_alloc, World.size_setCell, World.size_drew] at hfs)
  obtain ⟨hfac, hfad, hfao, hfaf, hfag, hfap, hfaz, hfax, hfay⟩ := bfacts (n := w1.heap.size) (k := 1) hf (by go_size) (by go_size); replace hfad := hfad (by decide); replace hfag := hfag (by decide); replace hfax := hfax (by decide); clear hfac hfaf hfaz
  obtain ⟨hfbc, hfbd, hfbo, hfbf, hfbg, hfbp, hfbz, hfbx, hfby⟩ := bfacts (n := w3.heap.size) (k := 1) hf (by go_size) (by go_size); replace hfbd := hfbd (by decide); replace hfbg := hfbg (by decide); replace hfbx := hfbx (by decide); clear hfbc hfbf hfbz
  have ht := krN_size hs
  go_wp2_with fail
  obtain ⟨W, hW⟩ : ∃ W : World, W = w4.alloc (Obj.cells #[Value.int IntKind.i64 (krK s), Value.string (krN s)] 38) := ⟨_, rfl⟩
  have c1 : W.cell? ⟨w1.heap.size, 0, none⟩ = some (.int .i64 k) := by rw [hW]; go_simp
  have c2 : W.cell? ⟨w1.heap.size, 1, none⟩ = some (.string n) := by rw [hW]; go_simp
  have c3 : W.cell? ⟨w3.heap.size, 0, none⟩ = some (.int .i64 (krK s)) := by rw [hW]; go_simp
  have c4 : W.cell? ⟨w3.heap.size, 1, none⟩ = some (.string (krN s)) := by rw [hW]; go_simp
  have c5 : W.cell? ⟨w4.heap.size, 0, none⟩ = some (.int .i64 (krK s)) := by rw [hW]; go_simp
  have c6 : W.cell? ⟨w4.heap.size, 1, none⟩ = some (.string (krN s)) := by rw [hW]; go_simp
  have hWb : Below w.heap.size w W := by rw [hW]; (repeat' (first | (with_reducible exact Below.refl _ _) | (with_reducible refine Below.alloc ?_ ?_ _) | (with_reducible refine Below.setCell ?_ ?_ _) | (with_reducible refine Below.drew ?_) | (refine below_hyp (by assumption) ?_ ?_) | go_size))
  have hWbs := hWb.size
  rw [← hW]
  have q1 := neq_knd (krK s) (krN s)
  clear hW hdao hdap hday hdad hdag hdax heao heap heay head heag heax hfao hfap hfay hfad hfag hfax hfbo hfbp hfby hfbd hfbg hfbx
  have keepwA : ∀ x x' : World, Below x.heap.size x x' → (x.cell? ⟨w1.heap.size, 0, none⟩ = some (.int .i64 k) ∧ x.cell? ⟨w1.heap.size, 1, none⟩ = some (.string n) ∧ x.cell? ⟨w3.heap.size, 0, none⟩ = some (.int .i64 (krK s)) ∧ x.cell? ⟨w3.heap.size, 1, none⟩ = some (.string (krN s)) ∧ x.cell? ⟨w4.heap.size, 0, none⟩ = some (.int .i64 (krK s)) ∧ x.cell? ⟨w4.heap.size, 1, none⟩ = some (.string (krN s)) ∧ Below W.heap.size W x) → (x'.cell? ⟨w1.heap.size, 0, none⟩ = some (.int .i64 k) ∧ x'.cell? ⟨w1.heap.size, 1, none⟩ = some (.string n) ∧ x'.cell? ⟨w3.heap.size, 0, none⟩ = some (.int .i64 (krK s)) ∧ x'.cell? ⟨w3.heap.size, 1, none⟩ = some (.string (krN s)) ∧ x'.cell? ⟨w4.heap.size, 0, none⟩ = some (.int .i64 (krK s)) ∧ x'.cell? ⟨w4.heap.size, 1, none⟩ = some (.string (krN s)) ∧ Below W.heap.size W x') := fun x x' hb ⟨q0, q1, q2, q3, q4, q5, e⟩ => ⟨keep_cell hb q0, keep_cell hb q1, keep_cell hb q2, keep_cell hb q3, keep_cell hb q4, keep_cell hb q5, keep_below hb e (Nat.le_refl _)⟩
  go_region_held3 (fun x => x.cell? ⟨w1.heap.size, 0, none⟩ = some (.int .i64 k) ∧ x.cell? ⟨w1.heap.size, 1, none⟩ = some (.string n) ∧ x.cell? ⟨w3.heap.size, 0, none⟩ = some (.int .i64 (krK s)) ∧ x.cell? ⟨w3.heap.size, 1, none⟩ = some (.string (krN s)) ∧ x.cell? ⟨w4.heap.size, 0, none⟩ = some (.int .i64 (krK s)) ∧ x.cell? ⟨w4.heap.size, 1, none⟩ = some (.string (krN s)) ∧ Below W.heap.size W x) (first | exact ⟨c1, c2, c3, c4, c5, c6, (Below.refl _ _).drew⟩ | exact keepwA _ _ (by assumption) (by assumption)) (first | (go_at_call 21; refine (I_KndText _ _ _ ?_).mono ?_; (first | exact hn | exact ht); rintro _ _ ⟨rfl, _⟩) | (go_at_call 19; refine (S_KndText _ _ _ ?_).mono ?_; (first | exact hn | exact ht); rintro _ _ ⟨rfl, _⟩) | (go_at_call 43; refine (I_KndOk _ _ _ ?_).mono ?_; (first | exact hn | exact ht); rintro _ _ ⟨rfl, _⟩) | (go_at_call 44; refine (S_KndOk _ _ _ ?_).mono ?_; (first | exact hn | exact ht); rintro _ _ ⟨rfl, _⟩))
  all_goals (rename_i wA _ hHwA; obtain ⟨d1, d2, d3, d4, d5, d6, hwA⟩ := hHwA; clear keepwA c1 c2 c3 c4 c5 c6; have hwAs := hwA.size)
  clear q1
  have hdlt := block_lt_of_cell d1
  cases hB1 : krB s
  case false =>
    go_wp2_with fail
    refine (S_KndOk _ _ _ hn).mono ?_
    rintro _ x1 ⟨rfl, hx1⟩
    replace d1 := keep_cell hx1 d1; replace d2 := keep_cell hx1 d2; have hx1s := hx1.size
    by_cases hkk : kndOk k n = true
    case neg =>
      have hkk' : kndOk k n = false := by simpa using hkk
      have hz := kndText_none hkk'
      clear hkk
      go_wp2_with fail
      refine (I_KndText _ _ _ hn).mono ?_
      rintro _ x2 ⟨rfl, hx2⟩
      have hx2s := hx2.size
      rw [hz]
      clear hz
      go_wp2_with (go_at_call 17; refine (L_loOk _).mono ?_; rintro _ x5 ⟨rfl, hx5⟩)
      all_goals (try go_returns)
      all_goals exact HR.out _ _ ⟨ret_bool (by simp), by (repeat' (first | (with_reducible exact Below.refl _ _) | (with_reducible refine Below.alloc ?_ ?_ _) | (with_reducible refine Below.setCell ?_ ?_ _) | (with_reducible refine Below.drew ?_) | (refine below_hyp (by assumption) ?_ ?_) | go_size))⟩
    obtain ⟨y1, y2, y3⟩ := kr_text hkk
    have htn := kndText_size (k := k) hn
    go_wp2_with fail
    refine (I_KndText _ _ _ hn).mono ?_
    rintro _ x2 ⟨rfl, hx2⟩
    replace d1 := keep_cell hx2 d1; replace d2 := keep_cell hx2 d2; have hx2s := hx2.size
    go_wp2_with fail
    refine (I_KndRead' _ _ htn).mono ?_
    rw [y1, y2, y3]
    clear y1 y2 y3
    rintro _ x3 ⟨rfl, hx3⟩
    replace d1 := keep_cell hx3 d1; replace d2 := keep_cell hx3 d2; have hx3s := hx3.size
    have hlt1 := block_lt_of_cell d1
    simp only at hlt1
    go_wp2
    all_goals (try go_returns)
    all_goals exact HR.out _ _ ⟨ret_bool (by simp), by (repeat' (first | (with_reducible exact Below.refl _ _) | (with_reducible refine Below.alloc ?_ ?_ _) | (with_reducible refine Below.setCell ?_ ?_ _) | (with_reducible refine Below.drew ?_) | (refine below_hyp (by assumption) ?_ ?_) | go_size))⟩
  case true =>
    obtain ⟨z1, z2⟩ := kr_read hB1
    go_wp2_with fail
    refine (I_KndOk _ _ _ ht).mono ?_
    rintro _ wB ⟨rfl, hB⟩
    replace d1 := keep_cell hB d1; replace d2 := keep_cell hB d2; replace d3 := keep_cell hB d3; replace d4 := keep_cell hB d4; have hBs := hB.size
    go_wp2_with fail
    refine (I_KndText _ _ _ ht).mono ?_
    rw [z2]
    clear z1 z2
    rintro _ wC ⟨rfl, hC⟩
    replace d1 := keep_cell hC d1; replace d2 := keep_cell hC d2; replace d3 := keep_cell hC d3; replace d4 := keep_cell hC d4; have hCs := hC.size
    go_wp2_with fail
    refine (S_KndOk _ _ _ hn).mono ?_
    rintro _ x1 ⟨rfl, hx1⟩
    replace d1 := keep_cell hx1 d1; replace d2 := keep_cell hx1 d2; have hx1s := hx1.size
    by_cases hkk : kndOk k n = true
    case neg =>
      have hkk' : kndOk k n = false := by simpa using hkk
      have hz := kndText_none hkk'
      clear hkk
      go_wp2_with fail
      refine (I_KndText _ _ _ hn).mono ?_
      rintro _ x2 ⟨rfl, hx2⟩
      have hx2s := hx2.size
      rw [hz]
      clear hz
      go_wp2_with (go_at_call 17; refine (L_loOk _).mono ?_; rintro _ x5 ⟨rfl, hx5⟩)
      all_goals (try go_returns)
      all_goals exact HR.out _ _ ⟨ret_bool (by simp), by (repeat' (first | (with_reducible exact Below.refl _ _) | (with_reducible refine Below.alloc ?_ ?_ _) | (with_reducible refine Below.setCell ?_ ?_ _) | (with_reducible refine Below.drew ?_) | (refine below_hyp (by assumption) ?_ ?_) | go_size))⟩
    obtain ⟨y1, y2, y3⟩ := kr_text hkk
    have htn := kndText_size (k := k) hn
    go_wp2_with fail
    refine (I_KndText _ _ _ hn).mono ?_
    rintro _ x2 ⟨rfl, hx2⟩
    replace d1 := keep_cell hx2 d1; replace d2 := keep_cell hx2 d2; have hx2s := hx2.size
    go_wp2_with fail
    refine (I_KndRead' _ _ htn).mono ?_
    rw [y1, y2, y3]
    clear y1 y2 y3
    rintro _ x3 ⟨rfl, hx3⟩
    replace d1 := keep_cell hx3 d1; replace d2 := keep_cell hx3 d2; have hx3s := hx3.size
    have hlt1 := block_lt_of_cell d1
    simp only at hlt1
    go_wp2
    all_goals (try go_returns)
    all_goals exact HR.out _ _ ⟨ret_bool (by simp), by (repeat' (first | (with_reducible exact Below.refl _ _) | (with_reducible refine Below.alloc ?_ ?_ _) | (with_reducible refine Below.setCell ?_ ?_ _) | (with_reducible refine Below.drew ?_) | (refine below_hyp (by assumption) ?_ ?_) | go_size))⟩

end Go.Proofs.Ytchhappoidncjaa
