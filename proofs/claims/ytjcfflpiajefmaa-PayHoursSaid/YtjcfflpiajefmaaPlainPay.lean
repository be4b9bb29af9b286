/- THE PLAIN SIDE of layer 19 (pay). No Go in sight. -/
import Derived.Test.YtjcfflpiajefmaaPlainSetup
import Derived.Test.YtjcfflpiajefmaaPlainNum
set_option linter.unusedSimpArgs false
set_option linter.unusedVariables false
namespace Lu
/-- Seconds: of a week. -/
def secP (n : Int) : Int := if n < 0 then 0 else if 604800 < n then 604800 else n
theorem secP_range (n : Int) : 0 ≤ secP n ∧ secP n ≤ 604800 := by unfold secP; split <;> (try split) <;> omega
theorem secP_same {n : Int} (h : 0 ≤ n) (h' : n ≤ 604800) : secP n = n := by unfold secP; split <;> (try split) <;> omega
/-- An hour's cents of a category, twice. -/
def twiceP (rate diff cat : Int) : Int := if cat ≤ 3 then rate * (cat + 1) else rate * (cat - 3 + 1) + 2 * diff
def centP (rate diff cat sec : Int) : Int := (halfP (secP sec * twiceP rate diff cat) 7200).1
theorem mul_range {a b A B : Int} (h1 : 0 ≤ a ∧ a ≤ A) (h2 : 0 ≤ b ∧ b ≤ B) : 0 ≤ a * b ∧ a * b ≤ A * B :=
  ⟨Int.mul_nonneg h1.1 h2.1, Int.mul_le_mul h1.2 h2.2 h2.1 (Int.le_trans h1.1 h1.2)⟩
theorem twiceP_range {rate diff cat : Int} (h1 : 0 ≤ rate ∧ rate ≤ 100000) (h2 : 0 ≤ diff ∧ diff ≤ 100000) (hc : 0 ≤ cat ∧ cat ≤ 6) : 0 ≤ twiceP rate diff cat ∧ twiceP rate diff cat ≤ 600000 := by
  unfold twiceP
  rcases (show cat = 0 ∨ cat = 1 ∨ cat = 2 ∨ cat = 3 ∨ cat = 4 ∨ cat = 5 ∨ cat = 6 by omega) with rfl | rfl | rfl | rfl | rfl | rfl | rfl <;> simp <;> omega
theorem half_range {a b A : Int} (h : 0 ≤ a ∧ a ≤ A) (hb : 1 ≤ b) : 0 ≤ (halfP a b).1 ∧ (halfP a b).1 ≤ A + 1 := by
  have h1 : 0 ≤ a / b := Int.ediv_nonneg h.1 (by omega)
  have h2 : a / b ≤ a := Int.ediv_le_self _ h.1
  unfold halfP
  rw [if_neg (by omega)]
  split <;> simp only <;> omega
/-- What was paid for, of the first categories. -/
def paidTo (X : Nat → Int) : Nat → Int
  | 0 => 0
  | k + 1 => paidTo X k + if k = 0 then 0 else secP (X k)
theorem paidTo_range (X : Nat → Int) (k : Nat) : 0 ≤ paidTo X k ∧ paidTo X k ≤ k * 604800 := by
  induction k with
  | zero => exact ⟨Int.le_refl _, Int.le_refl _⟩
  | succ k ih =>
    unfold paidTo
    have := secP_range (X k)
    split <;> omega
theorem sumP_cents {c1 c2 c3 c4 c5 c6 b : Int} (h1 : 0 ≤ c1 ∧ c1 ≤ 362880000001) (h2 : 0 ≤ c2 ∧ c2 ≤ 362880000001) (h3 : 0 ≤ c3 ∧ c3 ≤ 362880000001) (h4 : 0 ≤ c4 ∧ c4 ≤ 362880000001) (h5 : 0 ≤ c5 ∧ c5 ≤ 362880000001) (h6 : 0 ≤ c6 ∧ c6 ≤ 362880000001) (h7 : 0 ≤ b ∧ b ≤ 362880000001) :
    sumP [0, c1, c2, c3, c4, c5, c6, b] = (c1 + c2 + c3 + c4 + c5 + c6 + b, 0) := by
  apply sumP_some
  rw [sumFrom_step (by unfold In; omega), sumFrom_step (by unfold In; omega), sumFrom_step (by unfold In; omega), sumFrom_step (by unfold In; omega), sumFrom_step (by unfold In; omega), sumFrom_step (by unfold In; omega), sumFrom_step (by unfold In; omega), sumFrom_step (by unfold In; omega)]
  show some _ = some _
  congr 1
  omega
theorem centP_range {rate diff sec : Int} {j : Nat} (h1 : 0 ≤ rate ∧ rate ≤ 100000) (h2 : 0 ≤ diff ∧ diff ≤ 100000) (hj : j < 7) : 0 ≤ centP rate diff j sec ∧ centP rate diff j sec ≤ 362880000001 := by
  have := half_range (b := 7200) (mul_range (secP_range sec) (twiceP_range (cat := (j : Int)) h1 h2 (by omega))) (by decide)
  unfold centP
  omega
/-- What is missing to the least. -/
def moreP (least gross : Int) : Int := if gross < least then least - gross else 0
theorem up_range {a A : Int} (h : 0 ≤ a ∧ a ≤ A) : 0 ≤ (upP a 3600).1 ∧ (upP a 3600).1 ≤ A + 1 := by
  have h1 : 0 ≤ a / 3600 := Int.ediv_nonneg h.1 (by omega)
  have h2 : a / 3600 ≤ a := Int.ediv_le_self _ h.1
  unfold upP
  rw [if_neg (by omega)]
  split <;> simp only <;> omega
end Lu
