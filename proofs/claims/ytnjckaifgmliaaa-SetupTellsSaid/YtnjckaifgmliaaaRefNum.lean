/- THE WALKS of layer 1's reference (lumperref01): each function, once: it comes to what num comes to. -/
import Derived.Test.YtnjckaifgmliaaaNum
import Derived.Test.YtnjckaifgmliaaaNumUp
import Derived.Test.YtnjckaifgmliaaaNumTurns
set_option linter.unusedSimpArgs false
set_option linter.unusedVariables false
namespace Go.Proofs.Ytnjckaifgmliaaa
open Go.RowKit Lu

theorem ret_ib {a b : Int} {c d : Bool} (h : a = b) (h' : c = d) : Ending.returned (.tuple #[.int .i64 a, .bool c]) = .returned (.tuple #[.int .i64 b, .bool d]) := by rw [h, h']

/-- lumperref01.Div. -/
theorem tdiv_in {a b : Int} (ha : In a) (hb0 : 0 < b) : In (a.tdiv b) ∧ In (a.tdiv b * b) ∧ (a.tmod b < 0 → a < a.tdiv b * b ∧ a.tdiv b - 1 = a / b) ∧ (0 ≤ a.tmod b → a.tdiv b * b ≤ a ∧ a.tdiv b = a / b) := by
  have t := tdiv_down (a := a) (b := b) hb0
  have h1 := Int.mul_tdiv_add_tmod a b
  have h2 : (a.tmod b).natAbs ≤ a.natAbs := by rw [Int.natAbs_tmod]; exact Nat.mod_le _ _
  have h3 : (a.tdiv b).natAbs ≤ a.natAbs := Int.natAbs_tdiv_le_natAbs a b
  have hs : (0 ≤ a → 0 ≤ a.tmod b) ∧ (a ≤ 0 → a.tmod b ≤ 0) := ⟨fun h => Int.tmod_nonneg _ h, fun h => by
    have := Int.tmod_nonneg (b := b) (a := -a) (by omega)
    rw [Int.neg_tmod] at this
    omega⟩
  have hq : (0 ≤ a → 0 ≤ a.tdiv b) := fun h => Int.tdiv_nonneg h (by omega)
  have hq' : (a ≤ 0 → a.tdiv b ≤ 0) := fun h => by
    have := Int.tdiv_nonneg (a := -a) (b := b) (by omega) (by omega)
    rw [Int.neg_tdiv] at this
    omega
  rw [Int.mul_comm] at h1
  generalize a.tdiv b * b = p at *
  generalize a.tmod b = r at *
  generalize a.tdiv b = q at *
  unfold In at *
  refine ⟨by omega, by omega, fun h => ⟨by omega, ?_⟩, fun h => ⟨by omega, ?_⟩⟩
  · exact (t.1 h).1.symm
  · exact (t.2 h).1.symm
theorem rest_in (a b : Int) (hb : In b) (hb0 : 0 < b) : wrap64 (a - wrap64 (a / b * b)) = a % b := by
  have h1 := Int.mul_ediv_add_emod a b
  have h2 := Int.emod_nonneg a (show b ≠ 0 by omega)
  have h3 := Int.emod_lt_of_pos a hb0
  rw [Int.mul_comm] at h1
  generalize a / b * b = p at *
  generalize a % b = r at *
  rw [wrap64_w64, wrap64_w64]
  unfold w64
  unfold In at hb
  omega

/-! ### lumperref01.Mul: by halves of the second one. -/
/-- A product, and that with half of the second one: both lie on one side of 0. -/
theorem halves (a b : Int) (h : Int) (s : Int) (hh : b = 2 * h + s) (hs : (0 ≤ h ∧ 0 ≤ s ∧ s ≤ 1) ∨ (h ≤ 0 ∧ s ≤ 0 ∧ -1 ≤ s)) :
    a * b = 2 * (a * h) + a * s ∧ ((0 ≤ a * h ∧ 0 ≤ a * s) ∨ (a * h ≤ 0 ∧ a * s ≤ 0)) := by
  refine ⟨by rw [hh, Int.mul_add, ← Int.mul_assoc, Int.mul_comm a 2, Int.mul_assoc], ?_⟩
  rcases hs with ⟨h1, h2, _⟩ | ⟨h1, h2, _⟩ <;> rcases Int.le_total 0 a with ha | ha
  · exact Or.inl ⟨Int.mul_nonneg ha h1, Int.mul_nonneg ha h2⟩
  · exact Or.inr ⟨Int.mul_nonpos_of_nonpos_of_nonneg ha h1, Int.mul_nonpos_of_nonpos_of_nonneg ha h2⟩
  · exact Or.inr ⟨Int.mul_nonpos_of_nonneg_of_nonpos ha h1, Int.mul_nonpos_of_nonneg_of_nonpos ha h2⟩
  · exact Or.inl ⟨Int.mul_nonneg_of_nonpos_of_nonpos ha h1, Int.mul_nonneg_of_nonpos_of_nonpos ha h2⟩

end Go.Proofs.Ytnjckaifgmliaaa
