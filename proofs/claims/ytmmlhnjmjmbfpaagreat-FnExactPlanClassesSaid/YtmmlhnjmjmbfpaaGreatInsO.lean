

/-
  The walk of the program's InsOk. Condition: the texts are no longer than a text may be.
-/
import Derived.Test.YtmmlhnjmjmbfpaaGreatInsJ
import Derived.Test.YtmmlhnjmjmbfpaaGreatInsK
import Derived.Deep.RegionWith
namespace Go.Proofs.YtmmlhnjmjmbfpaaGreat
set_option linter.unusedSimpArgs false
set_option linter.unusedVariables false
open Go.RowKit

theorem I_InsOk (op a : Int) (n m : ByteArray) (w : World) (hn : n.size ≤ maxLen) (hm : m.size ≤ maxLen) :
    Calls Tryz.prog 96 #[.agg #[.int .i64 op, .int .i64 a, .string n, .string m]] w fun e w' => e = .returned (.bool (insOk op a n m)) ∧ Below w.heap.size w w' := by
  by_cases h1 : opNum op = true
  · refine I_InsOk_num op a n m w hn hm (by simp [formV, h1]) ?_
    simp only [opNum, Bool.or_eq_true, beq_iff_eq] at h1
    rcases h1 with ((((h1 | h1) | h1) | h1) | h1) | h1 <;> subst h1 <;> simp [insOk, rangeLo, rangeHi] <;> (rw [Bool.eq_iff_iff]; simp; try (constructor <;> (intro h; simp_all)))
  by_cases h2 : opCls op = true
  · refine I_InsOk_cls op a n m w hn hm (by simp [formV, h1, h2]) ?_
    simp only [opCls, Bool.or_eq_true, beq_iff_eq] at h2
    rcases h2 with h2 | h2 <;> subst h2 <;> simp [insOk] <;> (rw [Bool.eq_iff_iff]; simp; try (constructor <;> (intro h; simp_all)))
  by_cases h3 : opMem op = true
  · refine I_InsOk_mem op a n m w hn hm (by simp [formV, h1, h2, h3]) ?_
    simp only [opMem, Bool.or_eq_true, beq_iff_eq] at h3
    rcases h3 with (h3 | h3) | h3 <;> subst h3 <;> simp [insOk] <;> (rw [Bool.eq_iff_iff]; simp; try (constructor <;> (intro h; simp_all)))
  by_cases h4 : opPln op = true
  · refine I_InsOk_pln op a n m w hn hm (by simp [formV, h1, h2, h3, h4]) ?_
    simp only [opPln, Bool.or_eq_true, beq_iff_eq] at h4
    rcases h4 with ((h4 | h4) | h4) | h4 <;> subst h4 <;> simp [insOk] <;> (rw [Bool.eq_iff_iff]; simp; try (intros; constructor <;> (intro h; exact h.symm)))
  · refine I_InsOk_nil op a n m w (by simp [formV, h1, h2, h3, h4]) ?_
    simp [opNum, opCls, opMem, opPln] at h1 h2 h3 h4
    simp [insOk, h1, h2, h3, h4]

end Go.Proofs.YtmmlhnjmjmbfpaaGreat
