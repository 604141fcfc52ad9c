

/-
  The walks of the reference's l1Words, l1Read. Condition: the text is short.
-/
import Derived.Test.YtmbfpbgkchncgaaDoorPars
import Derived.Test.YtmbfpbgkchncgaaDoorTy
namespace Go.Proofs.YtmbfpbgkchncgaaDoor
set_option linter.unusedSimpArgs false
set_option linter.unusedVariables false
open Go.RowKit

theorem by_len (s : ByteArray) : (by' s).length = s.size := by
  unfold by'
  rw [Array.length_toList]; rfl
theorem by_get {s : ByteArray} {k : Nat} (h : k < s.size) : (by' s)[k]? = some s[k] := by
  unfold by'
  rw [List.getElem?_eq_getElem (by simpa using h)]; rfl
theorem by_drop {s : ByteArray} {k : Nat} (h : k < s.size) : (by' s).drop k = s[k] :: (by' s).drop (k + 1) := by
  rw [List.drop_eq_getElem_cons (by rw [by_len]; exact h)]; rfl
theorem wordsGo_all : ∀ (c l : List UInt8), wordsGo c l ≠ []
  | _, [] => by simp [wordsGo]
  | c, x :: r => by
    unfold wordsGo
    split
    · simp
    · exact wordsGo_all _ r
/-- no word is longer than the text -/
theorem wordsGo_len : ∀ (c l : List UInt8), ∀ w ∈ wordsGo c l, w.length ≤ c.length + l.length
  | c, [], w, h => by
    simp [wordsGo] at h; subst h; simp
  | c, x :: r, w, h => by
    unfold wordsGo at h
    split at h
    · rcases List.mem_cons.1 h with rfl | h
      · simp
      · have := wordsGo_len [] r w h
        simp at this ⊢; omega
    · have := wordsGo_len (c ++ [x]) r w h
      simp at this ⊢; omega
theorem words_size {s x : ByteArray} (h : x ∈ words s) : x.size ≤ s.size := by
  unfold words at h
  obtain ⟨l, hl, rfl⟩ := List.mem_map.1 h
  have := wordsGo_len [] (by' s) l hl
  rw [tx_size]
  rw [by_len] at this
  simpa using this
theorem words_pos (s : ByteArray) : 0 < (words s).length := by
  unfold words
  rw [List.length_map]
  have := wordsGo_all [] (by' s)
  cases h : wordsGo [] (by' s) with
  | nil => exact absurd h this
  | cons _ _ => simp

end Go.Proofs.YtmbfpbgkchncgaaDoor
