/-
  Texts of mine, packed: PlainD, LoRefs. No condition beside those of the single theorems.
-/
import Derived.Test.YtcdmmnfdnmjnpaaK28
import Derived.Test.YtcdmmnfdnmjnpaaK20
import Derived.Test.YtcdmmnfdnmjnpaaK31
import Derived.Test.YtcdmmnfdnmjnpaaK2
import Derived.BigQuiet
set_option linter.unusedSimpArgs false
set_option linter.unusedVariables false
namespace Go.Proofs.Ytcdmmnfdnmjnpaa
open Go.RowKit
theorem ba_nilD {s : ByteArray} (h : s.toList.isEmpty = true) : s = ⟨#[]⟩ := by
  have h2 : s.toList = (⟨#[]⟩ : ByteArray).toList := by
    rw [List.isEmpty_iff.1 h]
    show [] = (ByteArray.empty).toList
    simp
  exact sameN_iff.1 (by unfold sameN; rw [h2]; simp)
theorem plain_next {p : DLodPlan} {r : DLodRef} (hn : r.fName.size ≤ maxLen) {k : Nat} {x : DLodRef} (hx : (lodChain p r)[k]? = some x) :
    ((loOfP p x).fSuper = ⟨#[]⟩ ∧ (lodChain p r).length = k + 1) ∨ ((loOfP p x).fSuper.toList.isEmpty = false ∧ (loOfP p x).fSuper.size ≤ maxLen ∧ ∃ y, (lodChain p r)[k + 1]? = some y ∧ lodFind p x.fKeeper (loOfP p x).fSuper = (y, 1)) := by
  have hne : lodChain p r ≠ [] := by intro e; rw [e] at hx; simp at hx
  obtain ⟨hp, hr, _⟩ := plain_chain hn hne
  obtain ⟨c, hc, h⟩ := chainF_next hr hx
  obtain ⟨hl, hnm, _⟩ := loOf_some hc
  rw [hl]
  rcases h with ⟨he, hk⟩ | ⟨he, hw, hy⟩
  · exact Or.inl ⟨ba_nilD he, by omega⟩
  · obtain ⟨j, hj, hjl⟩ := clsAt_in hc
    have hns := clsOk_super (clsAt_clsOk hp hc) he
    refine Or.inr ⟨he, namOk_maxLen hns, _, hy, ?_⟩
    rw [hj, Int.toNat_natCast] at hw hy
    rw [hj, lodFind_in hp hjl hns]
    have ht := chainF_tail hr (k + 1) _ hy
    rw [Int.toNat_natCast]
    exact findR_of hw rfl ht
theorem plain_once {p : DLodPlan} {r : DLodRef} (hn : r.fName.size ≤ maxLen) {i j : Nat} {x : DLodRef} (hi : (lodChain p r)[i]? = some x) (hj : (lodChain p r)[j]? = some x) : i = j := by
  have hne : lodChain p r ≠ [] := by intro e; rw [e] at hi; simp at hi
  obtain ⟨_, hr, _⟩ := plain_chain hn hne
  exact chainF_once hr hi hj
theorem plain_first {p : DLodPlan} {r : DLodRef} (hn : r.fName.size ≤ maxLen) (h : lodChain p r ≠ []) : (lodChain p r)[0]? = some r ∧ (lodChain p r).length ≤ 6 ∧ lodFind p r.fKeeper r.fName = (r, 1) := by
  obtain ⟨_, hr, hf⟩ := plain_chain hn h
  obtain ⟨t, ht⟩ := chainF_head hr
  exact ⟨by rw [ht]; rfl, chainF_len hr, hf⟩

theorem Refs.at' {w : World} {base : Nat} {v : Value} {rs : List DLodRef} (h : Refs w base v rs) (h0 : 0 < rs.length) : ∃ g cap, v = .slice (some ⟨g, 0, none⟩) rs.length cap ∧ g < w.heap.size ∧ rs.length ≤ cap ∧ cap ≤ maxLen ∧ ∀ k x, rs[k]? = some x → w.cell? ⟨g, k * 2, none⟩ = some (.int .i64 x.fKeeper) ∧ w.cell? ⟨g, k * 2 + 1, none⟩ = some (.string x.fName) := by
  obtain ⟨g, cap, rfl, h1, h2, h3, h4, _⟩ := own_cell h h0
  exact ⟨g, cap, rfl, h2, h3, h4, fun k x hk => h.cell2 hk⟩

set_option maxHeartbeats 4000000 in
theorem L_loRefs (va vb : Value) (rs : List DLodRef) (ba bb : Nat) (w : World) (h1 : Refs w ba va rs) (h2 : Refs w bb vb rs) :
    Calls Try.prog 48 #[va, vb] w fun e w' => e = .returned (.bool true) ∧ Below w.heap.size w w' := by
  obtain ⟨a1, c1, rfl, hc1, hm1⟩ := own_form h1
  obtain ⟨a2, c2, rfl, hc2, hm2⟩ := own_form h2
  have hl : rs.length ≤ 9223372036854775807 := by unfold maxLen at hm1; omega
  have H1 := Lib.hid h1
  have H2 := Lib.hid h2
  obtain ⟨n, hn⟩ : ∃ n, rs.length = n := ⟨_, rfl⟩
  rw [hn] at hl hc1 hc2 ⊢
  have HN := Lib.hid hn
  clear h1 h2 hn
  refine calls_hide fun R HR => ?_
  go_enter Try.func48, Try.ntmps48
  go_wp2_with fail
  go_loopw [5] (fun z wr => ∃ k : Nat, k ≤ n ∧ z = .int .i64 k ∧ Below w.heap.size w wr) (fun z _ => n - (intOf z).toNat)
  case atStart => exact ⟨0, Nat.zero_le _, rfl, bbel⟩
  case round =>
    obtain ⟨k, hk, rfl, hb⟩ := hrel
    have hbs := hb.size
    by_cases hlt : k < n
    · have hlt2 : (k : Int) < (n : Int) := by omega
      obtain ⟨x, hx⟩ : ∃ x, rs[k]? = some x := ⟨_, List.getElem?_eq_getElem (by have := HN.out; omega)⟩
      obtain ⟨g1, d1, e1, l1, _, _, r1⟩ := (H1.out.below hb).at' (by have := HN.out; omega)
      obtain ⟨g2, d2, e2, l2, _, _, r2⟩ := (H2.out.below hb).at' (by have := HN.out; omega)
      cases e1
      cases e2
      obtain ⟨p1, p2⟩ := r1 k x hx
      obtain ⟨p3, p4⟩ := r2 k x hx
      clear r1 r2 hx
      go_wp2_with fail
      first | (go_quiet (fail)) | skip
      go_wp2
      go_roundw
      case measure => simp [intOf]; omega
      case rel => exact ⟨k + 1, by omega, by go_num, Below.drewN hb _⟩
    · obtain rfl : k = n := by omega
      go_wp2
      all_goals (try go_returns)
      all_goals exact HR.out _ _ ⟨rfl, bbel⟩

set_option maxHeartbeats 4000000 in
theorem L_loHas (g n cap k : Nat) (rs : List DLodRef) (x : DLodRef) (base : Nat) (w : World) (h : Refs w base (.slice (some ⟨g, 0, none⟩) n cap) rs) (hk : k ≤ rs.length) (hno : ∀ (j : Nat) (y : DLodRef), j < k → rs[j]? = some y → refEq y x = false) :
    Calls Try.prog 50 #[.slice (some ⟨g, 0, none⟩) k cap, .agg #[.int .i64 x.fKeeper, .string x.fName]] w fun e w' => e = .returned (.bool false) ∧ Below w.heap.size w w' := by
  obtain ⟨a2, c2, e, hc2, hm2⟩ := own_form h
  cases e
  have hl : k ≤ 9223372036854775807 := by unfold maxLen at hm2; omega
  have H1 := Lib.hid h
  have HN := Lib.hid hno
  clear h hno
  refine calls_hide fun R HR => ?_
  go_enter Try.func50, Try.ntmps50
  go_wp2_with fail
  go_loopw [5] (fun z wr => ∃ j : Nat, j ≤ k ∧ z = .int .i64 j ∧ Below w.heap.size w wr ∧ wr.cell? ⟨w.heap.size, 0, none⟩ = some (.int .i64 x.fKeeper) ∧ wr.cell? ⟨w.heap.size, 1, none⟩ = some (.string x.fName)) (fun z _ => k - (intOf z).toNat)
  case atStart => exact ⟨0, Nat.zero_le _, rfl, bbel, by go_simp, by go_simp⟩
  case round =>
    obtain ⟨j, hj, rfl, hb, c0, c1⟩ := hrel
    have hbs := hb.size
    by_cases hlt : j < k
    · have hlt2 : (j : Int) < (k : Int) := by omega
      obtain ⟨y, hy⟩ : ∃ y, rs[j]? = some y := ⟨_, List.getElem?_eq_getElem (by omega)⟩
      obtain ⟨p1, p2⟩ := (H1.out.below hb).cell2 hy
      have hne : (y.fKeeper == x.fKeeper && y.fName.toList == x.fName.toList) = false := HN.out j y hlt hy
      have hgl : g < wr.heap.size := by have := block_lt_of_cell p1; simpa using this
      clear hy
      have hcs : (y.fKeeper == x.fKeeper) = false ∨ ((y.fKeeper == x.fKeeper) = true ∧ (y.fName.toList == x.fName.toList) = false) := by
        cases e : (y.fKeeper == x.fKeeper)
        · exact Or.inl rfl
        · rw [e] at hne; exact Or.inr ⟨rfl, by simpa using hne⟩
      clear hne
      rcases hcs with e1 | ⟨e2, e1⟩
      all_goals
        go_wp2_with fail
        first | (go_quiet (fail)) | skip
        go_wp2
        go_roundw
        case measure => simp [intOf]; omega
        case rel => exact ⟨j + 1, by omega, by go_num, Below.drewN hb _, by go_simp, by go_simp⟩
    · obtain rfl : j = k := by omega
      go_wp2
      all_goals (try go_returns)
      all_goals exact HR.out _ _ ⟨rfl, bbel⟩

end Go.Proofs.Ytcdmmnfdnmjnpaa
