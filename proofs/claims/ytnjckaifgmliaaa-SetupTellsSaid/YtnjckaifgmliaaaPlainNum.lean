/- THE PLAIN SIDE of layer 1 (num): what each function of num, and of its reference, comes to, as Lean functions on integers, and the facts on them that the walks and the laws lean on. No Go in sight. -/
namespace Lu

def lo : Int := -9223372036854775808
def hi : Int := 9223372036854775807
/-- A number of 64 bits. -/
def In (x : Int) : Prop := -9223372036854775808 ≤ x ∧ x ≤ 9223372036854775807
instance (x : Int) : Decidable (In x) := by unfold In; infer_instance

/-- What 64 bits make of a number. -/
def w64 (n : Int) : Int := (n + 9223372036854775808) % 18446744073709551616 - 9223372036854775808

theorem w64_in {n : Int} (h : In n) : w64 n = n := by unfold In at h; unfold w64; omega
theorem in_w64 (n : Int) : In (w64 n) := by unfold In w64; omega
theorem w64_eq_iff {n : Int} : w64 n = n ↔ In n := ⟨fun h => h ▸ in_w64 n, w64_in⟩

/-! ### products -/
def mulP (a b : Int) : Int × Int := if In (a * b) then (a * b, 0) else (0, 10)
theorem mulP_in {a b : Int} (h : In (a * b)) : mulP a b = (a * b, 0) := by simp [mulP, h]
theorem mulP_over {a b : Int} (h : ¬ In (a * b)) : mulP a b = (0, 10) := by simp [mulP, h]
theorem mulP_comm (a b : Int) : mulP a b = mulP b a := by unfold mulP; rw [Int.mul_comm]
theorem mulP_range (a b : Int) : In (mulP a b).1 := by
  unfold mulP; split
  · assumption
  · decide

/-- What Go's own check of a product tells. -/
theorem mul_check {a b : Int} (ha : In a) (hb : In b) (hb0 : b ≠ 0) :
    In (a * b) ↔ (w64 ((w64 (a * b)).tdiv b) = a ∧ ¬ (a = -1 ∧ b = -9223372036854775808) ∧ ¬ (b = -1 ∧ a = -9223372036854775808)) := by
  constructor
  · intro h
    rw [w64_in h, Int.mul_tdiv_cancel _ hb0, w64_in ha]
    refine ⟨rfl, ?_, ?_⟩
    · rintro ⟨rfl, rfl⟩; revert h; decide
    · rintro ⟨rfl, rfl⟩; revert h; decide
  · rintro ⟨h, _, h2⟩
    have ho := in_w64 (a * b)
    have hd : In ((w64 (a * b)).tdiv b) ∨ (w64 (a * b) = -9223372036854775808 ∧ b = -1) := by
      by_cases hb1 : b = -1
      · subst hb1
        have e : (w64 (a * -1)).tdiv (-1) = - w64 (a * -1) := by
          rw [Int.tdiv_neg, Int.tdiv_one]
        rw [e]
        unfold In at ho ⊢
        omega
      · left
        have h1 := Int.natAbs_tdiv_le_natAbs (w64 (a * b)) b
        unfold In at ho ⊢
        by_cases hb2 : 1 < b
        · have : ((w64 (a * b)).tdiv b).natAbs ≤ (w64 (a * b)).natAbs := h1
          by_cases hm : w64 (a * b) = -9223372036854775808
          · have e : (w64 (a*b)).tdiv b ≤ 0 := by
              rw [hm]
              have := Int.tdiv_nonneg (a := 9223372036854775808) (b := b) (by omega) (by omega)
              rw [show (-9223372036854775808 : Int) = -(9223372036854775808) from rfl, Int.neg_tdiv]
              omega
            omega
          · omega
        · by_cases hb3 : b = 1
          · subst hb3; rw [Int.tdiv_one]; omega
          · have hb4 : b ≤ -2 := by omega
            have h2 : ((w64 (a * b)).tdiv b).natAbs = (w64 (a * b)).natAbs / b.natAbs := Int.natAbs_tdiv _ _
            have h3 : (w64 (a * b)).natAbs / b.natAbs ≤ (w64 (a * b)).natAbs / 2 := Nat.div_le_div_left (by omega) (by omega)
            omega
    rcases hd with hd | ⟨hd, hbm⟩
    · rw [w64_in hd] at h
      have hr := Int.mul_tdiv_add_tmod (w64 (a * b)) b
      rw [h] at hr
      have hlt : ((w64 (a * b)).tmod b).natAbs < b.natAbs := by
        rw [Int.natAbs_tmod]
        exact Nat.mod_lt _ (by omega)
      have hab : b * a = a * b := Int.mul_comm _ _
      rw [hab] at hr
      rw [← w64_eq_iff]
      generalize (w64 (a * b)).tmod b = r at hr hlt
      generalize a * b = p at *
      unfold In at hb
      unfold w64 at hr ⊢
      omega
    · exfalso
      subst hbm
      rw [hd] at h
      have e : w64 ((-9223372036854775808 : Int).tdiv (-1)) = -9223372036854775808 := by decide
      rw [e] at h
      exact h2 ⟨rfl, h.symm⟩

/-! ### sums -/
def sumFrom (o : Int) : List Int → Option Int
  | [] => some o
  | n :: l => if In (o + n) then sumFrom (o + n) l else none
def sumP (l : List Int) : Int × Int := match sumFrom 0 l with
  | some s => (s, 0)
  | none => (0, 10)
theorem sumFrom_append (o : Int) (a b : List Int) : sumFrom o (a ++ b) = (sumFrom o a).bind fun s => sumFrom s b := by
  induction a generalizing o with
  | nil => rfl
  | cons n l ih =>
    simp only [List.cons_append, sumFrom]
    split
    · exact ih _
    · rfl
theorem sumFrom_in {o : Int} {l : List Int} {s : Int} (ho : In o) (h : sumFrom o l = some s) : In s := by
  induction l generalizing o with
  | nil => simp only [sumFrom, Option.some.injEq] at h; exact h ▸ ho
  | cons n l ih =>
    simp only [sumFrom] at h
    split at h
    · rename_i hi; exact ih hi h
    · cases h
theorem sumP_some {l : List Int} {s : Int} (h : sumFrom 0 l = some s) : sumP l = (s, 0) := by simp [sumP, h]
theorem sumP_none {l : List Int} (h : sumFrom 0 l = none) : sumP l = (0, 10) := by simp [sumP, h]
theorem sumP_range (l : List Int) : In (sumP l).1 := by
  unfold sumP
  split
  · rename_i s h; exact sumFrom_in (by decide) h
  · decide

theorem getD_mem {l : List Int} {k : Nat} (h : k < l.length) : l.getD k 0 ∈ l := by
  rw [List.getD_eq_getElem?_getD, List.getElem?_eq_getElem h]; simp
theorem drop_getD {l : List Int} {k : Nat} (h : k < l.length) : l.drop k = l.getD k 0 :: l.drop (k + 1) := by
  rw [List.drop_eq_getElem_cons h, List.getD_eq_getElem?_getD, List.getElem?_eq_getElem h]; rfl
theorem sumFrom_step {s n : Int} {l : List Int} (h : In (s + n)) : sumFrom s (n :: l) = sumFrom (s + n) l := by simp [sumFrom, h]
theorem sumFrom_stop {s n : Int} {l : List Int} (h : ¬ In (s + n)) : sumFrom s (n :: l) = none := by simp [sumFrom, h]

/-! ### quotients -/
def divP (a b : Int) : Int × Int := if b ≤ 0 then (0, 20) else (a / b, 0)
def halfP (a b : Int) : Int × Int := if b ≤ 0 then (0, 20) else (if b - a % b ≤ a % b then a / b + 1 else a / b, 0)
def upP (a b : Int) : Int × Int := if b ≤ 0 then (0, 20) else (if 0 < a % b then a / b + 1 else a / b, 0)

theorem divP_zero {a b : Int} (h : b ≤ 0) : divP a b = (0, 20) := by simp [divP, h]
theorem divP_pos {a b : Int} (h : 0 < b) : divP a b = (a / b, 0) := by rw [divP, if_neg (by omega)]
theorem halfP_zero {a b : Int} (h : b ≤ 0) : halfP a b = (0, 20) := by simp [halfP, h]
theorem halfP_more {a b : Int} (h : 0 < b) (k : b - a % b ≤ a % b) : halfP a b = (a / b + 1, 0) := by rw [halfP, if_neg (by omega), if_pos k]
theorem halfP_less {a b : Int} (h : 0 < b) (k : ¬ b - a % b ≤ a % b) : halfP a b = (a / b, 0) := by rw [halfP, if_neg (by omega), if_neg k]
theorem upP_zero {a b : Int} (h : b ≤ 0) : upP a b = (0, 20) := by simp [upP, h]
theorem upP_more {a b : Int} (h : 0 < b) (k : 0 < a % b) : upP a b = (a / b + 1, 0) := by rw [upP, if_neg (by omega), if_pos k]
theorem upP_less {a b : Int} (h : 0 < b) (k : ¬ 0 < a % b) : upP a b = (a / b, 0) := by rw [upP, if_neg (by omega), if_neg k]

theorem ediv_range {a b : Int} (ha : In a) (hb : 0 < b) : In (a / b) := by
  unfold In at *
  constructor
  · refine Int.le_ediv_of_mul_le hb ?_
    have : (-9223372036854775808 : Int) * b ≤ -9223372036854775808 * 1 := Int.mul_le_mul_of_nonpos_left (by decide) (by omega)
    omega
  · by_cases h0 : 0 ≤ a
    · have := Int.ediv_le_self b h0; omega
    · have := Int.ediv_neg_of_neg_of_pos (a := a) (b := b) (by omega) hb; omega

/-- Where something is left, a quotient and one more is a number. -/
theorem ediv_succ {a b : Int} (ha : In a) (hb : 1 < b) : In (a / b + 1) ∧ -4611686018427387904 ≤ a / b ∧ a / b ≤ 4611686018427387903 := by
  unfold In at *
  have h1 : -4611686018427387904 ≤ a / b := Int.le_ediv_of_mul_le (by omega) (by
      have : (-4611686018427387904 : Int) * b ≤ -4611686018427387904 * 2 := Int.mul_le_mul_of_nonpos_left (by decide) (by omega)
      omega)
  have h2 : a / b < 4611686018427387904 := Int.ediv_lt_of_lt_mul (by omega) (by
      have : (4611686018427387904 : Int) * 2 ≤ 4611686018427387904 * b := Int.mul_le_mul_of_nonneg_left (by omega) (by decide)
      omega)
  omega
theorem emod_one_left {a b : Int} (hb : 0 < b) (h : a % b ≠ 0) : 1 < b := by
  by_cases e : b = 1
  · subst e; omega
  · omega

/-- Go's quotient and rest, turned into those downwards. -/
theorem tdiv_down {a b : Int} (hb : 0 < b) : (a.tmod b < 0 → a / b = a.tdiv b - 1 ∧ a % b = a.tmod b + b) ∧ (0 ≤ a.tmod b → a / b = a.tdiv b ∧ a % b = a.tmod b) := by
  have h1 := Int.mul_tdiv_add_tmod a b
  have h2 := Int.mul_ediv_add_emod a b
  have h3 := Int.emod_nonneg a (show b ≠ 0 by omega)
  have h4 := Int.emod_lt_of_pos a hb
  have h5 : (a.tmod b).natAbs < b.natAbs := by rw [Int.natAbs_tmod]; exact Nat.mod_lt _ (by omega)
  have key : ∀ q r q' r' : Int, b * q + r = a → b * q' + r' = a → 0 ≤ r → r < b → 0 ≤ r' → r' < b → q = q' ∧ r = r' := by
    intro q r q' r' e1 e2 l1 l2 l3 l4
    have hq : q = q' := by
      have e : b * (q - q') = r' - r := by rw [Int.mul_sub]; omega
      by_cases hlt : q < q'
      · have : b * (q - q') ≤ b * (-1) := Int.mul_le_mul_of_nonneg_left (by omega) (by omega)
        omega
      · by_cases hgt : q' < q
        · have : b * 1 ≤ b * (q - q') := Int.mul_le_mul_of_nonneg_left (by omega) (by omega)
          omega
        · omega
    subst hq
    exact ⟨rfl, by omega⟩
  constructor
  · intro hn
    exact key _ _ _ _ h2 (by rw [Int.mul_sub]; omega) h3 h4 (by omega) (by omega)
  · intro hn
    exact key _ _ _ _ h2 h1 h3 h4 hn (by omega)

/-! ### the greatest number that divides both -/
/-- A number without its sign. -/
def sideN (a : Int) : Nat := if a = -9223372036854775808 then 4611686018427387904 else a.natAbs
def gcdP (a b : Int) : Int := ((sideN a).gcd (sideN b) : Nat)
theorem sideN_le {a : Int} (h : In a) : (sideN a : Int) ≤ 9223372036854775807 := by unfold sideN In at *; split <;> omega
theorem gcdP_nonneg (a b : Int) : 0 ≤ gcdP a b := by unfold gcdP; omega
theorem gcd_le_max (x y : Nat) : x.gcd y ≤ max x y := by
  by_cases h : x = 0
  · subst h; simp
  · exact Nat.le_trans (Nat.gcd_le_left y (by omega)) (Nat.le_max_left _ _)
theorem gcdP_range {a b : Int} (ha : In a) (hb : In b) : In (gcdP a b) := by
  have h1 := sideN_le ha
  have h2 := sideN_le hb
  have h3 := gcd_le_max (sideN a) (sideN b)
  unfold gcdP In
  omega
end Lu
