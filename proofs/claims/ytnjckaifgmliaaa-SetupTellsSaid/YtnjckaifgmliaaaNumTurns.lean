/- THE WALK of NumTurns: it returns true, and turns nothing that was there. -/
import Derived.Test.YtnjckaifgmliaaaNumUp
set_option linter.unusedSimpArgs false
set_option linter.unusedVariables false
namespace Go.Proofs.Ytnjckaifgmliaaa
open Go.RowKit Lu

theorem sumP_pair (a b : Int) (ha : In a) (hb : In b) : sumP [a, b] = sumP [b, a] := by
  unfold sumP
  simp only [sumFrom, Int.zero_add]
  rw [if_pos ha, if_pos hb, Int.add_comm b a]
theorem turn_facts (a : Int) (ha : In a) : (mulP a (-1) = (0, 10) ∧ a = -9223372036854775808) ∨ (mulP a (-1) = (-a, 0) ∧ sumP [a, -a] = (0, 0) ∧ In (-a) ∧ a ≠ -9223372036854775808) := by
  have ha' := ha
  unfold In at ha'
  by_cases h : a = -9223372036854775808
  · left; subst h; decide
  · right
    have hn : In (-a) := by unfold In; omega
    refine ⟨?_, ?_, hn, h⟩
    · rw [mulP_in (by rw [show a * -1 = -a from by omega]; exact hn), show a * -1 = -a from by omega]
    · have h0 : In (a + -a) := by rw [Int.add_right_neg]; decide
      unfold sumP
      simp only [sumFrom, Int.zero_add]
      rw [if_pos ha, if_pos h0, Int.add_right_neg]

end Go.Proofs.Ytnjckaifgmliaaa
