/- THE PLAIN SIDE of layer 2 (ratio): what each function comes to, on pairs of integers, and the facts on them. No Go in sight. -/
import Derived.Test.YtnjckaifgmliaaaPlainNum
set_option linter.unusedSimpArgs false
set_option linter.unusedVariables false
namespace Lu

/-- The ratio of n through d, and its error. -/
def mkP (n d : Int) : (Int × Int) × Int :=
  if d ≤ 0 then ((0, 0), 20)
  else if n = 0 then ((0, 1), 0)
  else if 2147483647 < n.tdiv (gcdP n d) ∨ n.tdiv (gcdP n d) < -2147483647 ∨ 2147483647 < d / gcdP n d then ((0, 0), 10)
  else ((n.tdiv (gcdP n d), d / gcdP n d), 0)
/-- A ratio may be. -/
def Ok (n d : Int) : Prop := -2147483647 ≤ n ∧ n ≤ 2147483647 ∧ 1 ≤ d ∧ d ≤ 2147483647 ∧ n.natAbs.gcd d.natAbs = 1
instance (n d : Int) : Decidable (Ok n d) := by unfold Ok; infer_instance

theorem gcdP_pos {n d : Int} (hd : 0 < d) (hi : In d) : 0 < gcdP n d := by
  unfold gcdP
  have : 0 < sideN d := by unfold In at hi; unfold sideN; rw [if_neg (by omega)]; omega
  have := Nat.gcd_pos_of_pos_right (sideN n) this
  omega
theorem gcdP_dvd_right {n d : Int} (hd : 0 < d) : gcdP n d ∣ d := by
  unfold gcdP
  have e : sideN d = d.natAbs := by unfold sideN; rw [if_neg (by omega)]
  have : (sideN n).gcd (sideN d) ∣ d.natAbs := e ▸ Nat.gcd_dvd_right _ _
  exact Int.ofNat_dvd_left.2 this
theorem gcdP_dvd_left {n d : Int} : gcdP n d ∣ n := by
  unfold gcdP
  have : (sideN n).gcd (sideN d) ∣ n.natAbs := by
    have h := Nat.gcd_dvd_left (sideN n) (sideN d)
    by_cases e : n = -9223372036854775808
    · have e1 : sideN n = 4611686018427387904 := by rw [e]; rfl
      rw [e1] at h ⊢
      rw [e]
      exact Nat.dvd_trans h (by decide)
    · have e1 : sideN n = n.natAbs := by unfold sideN; rw [if_neg e]
      rw [e1] at h ⊢
      exact h
  exact Int.ofNat_dvd_left.2 this

theorem mkP_zero {n d : Int} (h : d ≤ 0) : mkP n d = ((0, 0), 20) := by rw [mkP, if_pos h]
theorem mkP_none {d : Int} (h : 0 < d) : mkP 0 d = ((0, 1), 0) := by rw [mkP, if_neg (by omega), if_pos rfl]
theorem mkP_over {n d : Int} (h : 0 < d) (hn : n ≠ 0) (c : 2147483647 < n.tdiv (gcdP n d) ∨ n.tdiv (gcdP n d) < -2147483647 ∨ 2147483647 < d / gcdP n d) : mkP n d = ((0, 0), 10) := by
  rw [mkP, if_neg (by omega), if_neg hn, if_pos c]
theorem mkP_in {n d : Int} (h : 0 < d) (hn : n ≠ 0) (c : ¬ (2147483647 < n.tdiv (gcdP n d) ∨ n.tdiv (gcdP n d) < -2147483647 ∨ 2147483647 < d / gcdP n d)) : mkP n d = ((n.tdiv (gcdP n d), d / gcdP n d), 0) := by
  rw [mkP, if_neg (by omega), if_neg hn, if_neg c]
theorem tdiv_pos_range {n g : Int} (hn : In n) (hg : 0 < g) : In (n.tdiv g) := by
  have h := Int.natAbs_tdiv_le_natAbs n g
  have h1 : 0 ≤ n → 0 ≤ n.tdiv g := fun h => Int.tdiv_nonneg h (by omega)
  have h2 : n ≤ 0 → n.tdiv g ≤ 0 := fun h => by
    have := Int.tdiv_nonneg (a := -n) (b := g) (by omega) (by omega)
    rw [Int.neg_tdiv] at this
    omega
  unfold In at *
  omega
theorem mkP_in64 {n d : Int} : In (mkP n d).1.1 ∧ In (mkP n d).1.2 ∧ ((mkP n d).2 = 0 ∨ (mkP n d).2 = 10 ∨ (mkP n d).2 = 20) := by
  by_cases h : d ≤ 0
  · rw [mkP_zero h]; decide
  · by_cases hn : n = 0
    · subst hn; rw [mkP_none (by omega)]; decide
    · by_cases c : 2147483647 < n.tdiv (gcdP n d) ∨ n.tdiv (gcdP n d) < -2147483647 ∨ 2147483647 < d / gcdP n d
      · rw [mkP_over (by omega) hn c]; decide
      · rw [mkP_in (by omega) hn c]
        have : 0 ≤ d / gcdP n d := Int.ediv_nonneg (by omega) (gcdP_nonneg _ _)
        unfold In
        exact ⟨by simp only; omega, by simp only; omega, Or.inl rfl⟩

theorem sideN_small {n : Int} (h : -9223372036854775807 ≤ n) : sideN n = n.natAbs := by unfold sideN; rw [if_neg (by omega)]
theorem Ok_gcd {n d : Int} (h : Ok n d) : gcdP n d = 1 := by
  obtain ⟨h1, h2, h3, h4, h5⟩ := h
  unfold gcdP
  rw [sideN_small (by omega), sideN_small (by omega), h5]
  rfl
theorem mkP_ok {n d : Int} (h : Ok n d) : mkP n d = ((n, d), 0) := by
  have hg := Ok_gcd h
  obtain ⟨h1, h2, h3, h4, h5⟩ := h
  by_cases hn : n = 0
  · subst hn
    have : d = 1 := by simp at h5; omega
    subst this
    exact mkP_none (by decide)
  · rw [mkP_in (by omega) hn (by rw [hg, Int.tdiv_one, Int.ediv_one]; omega), hg, Int.tdiv_one, Int.ediv_one]
/-- What is told without an error may be. -/
theorem mkP_is_ok {n d x y : Int} (hn : In n) (hd : In d) (h : mkP n d = ((x, y), 0)) : Ok x y ∧ x * d = n * y ∧ 0 < d := by
  by_cases c : d ≤ 0
  · rw [mkP_zero c] at h; cases h
  by_cases n0 : n = 0
  · subst n0
    rw [mkP_none (by omega)] at h
    cases h
    exact ⟨by decide, by simp, by omega⟩
  by_cases c1 : 2147483647 < n.tdiv (gcdP n d) ∨ n.tdiv (gcdP n d) < -2147483647 ∨ 2147483647 < d / gcdP n d
  · rw [mkP_over (by omega) n0 c1] at h; cases h
  · rw [mkP_in (by omega) n0 c1] at h
    have hg := gcdP_pos (n := n) (d := d) (by omega) hd
    have hl := gcdP_dvd_left (n := n) (d := d)
    have hr := gcdP_dvd_right (n := n) (d := d) (by omega)
    have e1 : n = gcdP n d * n.tdiv (gcdP n d) := (Int.mul_tdiv_cancel' hl).symm
    have e2 : d = gcdP n d * (d / gcdP n d) := (Int.mul_ediv_cancel' hr).symm
    have hx : n.tdiv (gcdP n d) = x := congrArg (fun r => r.1.1) h
    have hy : d / gcdP n d = y := congrArg (fun r => r.1.2) h
    rw [hx] at c1 e1
    rw [hy] at c1 e2
    have hy1 : 1 ≤ y := by
      apply Classical.byContradiction
      intro hc
      have : gcdP n d * y ≤ 0 := Int.mul_nonpos_of_nonneg_of_nonpos (by omega) (by omega)
      omega
    refine ⟨⟨by omega, by omega, hy1, by omega, ?_⟩, ?_, by omega⟩
    · -- the numbers that are left have no common part
      have hgd : (gcdP n d).natAbs = (sideN n).gcd (sideN d) := by unfold gcdP; rfl
      have sd : sideN d = d.natAbs := sideN_small (by omega)
      have gn : 0 < (gcdP n d).natAbs := by omega
      have d1 : d.natAbs = (gcdP n d).natAbs * y.natAbs := by rw [← Int.natAbs_mul, ← e2]
      have n1 : n.natAbs = (gcdP n d).natAbs * x.natAbs := by rw [← Int.natAbs_mul, ← e1]
      by_cases hlow : n = -9223372036854775808
      · -- the least number: its side is half of it
        have sn : sideN n = 4611686018427387904 := by rw [hlow]; rfl
        have key : Nat.gcd 4611686018427387904 d.natAbs = (gcdP n d).natAbs := by rw [hgd, sn, sd]
        have nn : n.natAbs = 2 * 4611686018427387904 := by rw [hlow]; rfl
        -- |x| is twice 2^62 / g; any common part of |x| and y divides 1
        generalize (gcdP n d).natAbs = g at *
        have hgm : g ∣ 4611686018427387904 := key ▸ Nat.gcd_dvd_left _ _
        obtain ⟨m, hm⟩ := hgm
        have hxm : x.natAbs = 2 * m := by
          have : g * x.natAbs = g * (2 * m) := by rw [← n1, nn, hm]; rw [Nat.mul_left_comm]
          exact Nat.eq_of_mul_eq_mul_left gn this
        have hco : Nat.gcd m y.natAbs = 1 := by
          have : g * Nat.gcd m y.natAbs = g * 1 := by rw [← Nat.gcd_mul_left, ← hm, ← d1, key, Nat.mul_one]
          exact Nat.eq_of_mul_eq_mul_left gn this
        rw [hxm]
        by_cases hodd : m % 2 = 0
        · have hy2 : y.natAbs % 2 = 1 := by
            apply Classical.byContradiction
            intro hc
            have h2 : 2 ∣ Nat.gcd m y.natAbs := Nat.dvd_gcd (Nat.dvd_of_mod_eq_zero hodd) (Nat.dvd_of_mod_eq_zero (by omega))
            rw [hco] at h2
            omega
          have h2y : Nat.Coprime 2 y.natAbs := by
            have : Nat.gcd 2 y.natAbs ∣ 2 := Nat.gcd_dvd_left _ _
            have h1 : Nat.gcd 2 y.natAbs ≤ 2 := Nat.le_of_dvd (by decide) this
            have h3 : Nat.gcd 2 y.natAbs ≠ 2 := fun e => by
              have : 2 ∣ y.natAbs := e ▸ Nat.gcd_dvd_right 2 y.natAbs
              omega
            have h4 : 0 < Nat.gcd 2 y.natAbs := Nat.gcd_pos_of_pos_left _ (by decide)
            unfold Nat.Coprime
            omega
          exact Nat.Coprime.mul_left h2y hco
        · have hm2 : m ∣ 2 ^ 62 := ⟨g, by rw [Nat.mul_comm, ← hm]⟩
          have hcp : Nat.Coprime m 2 := by
            have : Nat.gcd m 2 ∣ 2 := Nat.gcd_dvd_right _ _
            have h1 : Nat.gcd m 2 ≤ 2 := Nat.le_of_dvd (by decide) this
            have h3 : Nat.gcd m 2 ≠ 2 := fun e => by
              have : 2 ∣ m := e ▸ Nat.gcd_dvd_left m 2
              omega
            have h4 : 0 < Nat.gcd m 2 := Nat.gcd_pos_of_pos_right _ (by decide)
            unfold Nat.Coprime
            omega
          have hm1 : m = 1 := Nat.Coprime.eq_one_of_dvd (Nat.Coprime.pow_right 62 hcp) hm2
          subst hm1
          have hg2 : g = 4611686018427387904 := by omega
          have hy3 : y.natAbs = 1 := by
            unfold In at hd
            rw [hg2] at d1
            omega
          rw [hy3]
          rfl
      · have sn : sideN n = n.natAbs := by unfold sideN; rw [if_neg hlow]
        rw [sn, sd] at hgd
        have : (gcdP n d).natAbs * Nat.gcd x.natAbs y.natAbs = (gcdP n d).natAbs * 1 := by rw [← Nat.gcd_mul_left, ← n1, ← d1, ← hgd, Nat.mul_one]
        exact Nat.eq_of_mul_eq_mul_left gn this
    · have h1 : x * d = x * (gcdP n d * y) := by rw [← e2]
      have h2 : n * y = gcdP n d * x * y := by rw [← e1]
      rw [h1, h2, Int.mul_left_comm, Int.mul_assoc]

theorem prod31 {a b : Int} (ha : -2147483647 ≤ a ∧ a ≤ 2147483647) (hb : -2147483647 ≤ b ∧ b ≤ 2147483647) : -4611686014132420609 ≤ a * b ∧ a * b ≤ 4611686014132420609 := by
  have h1 : (a * b).natAbs = a.natAbs * b.natAbs := Int.natAbs_mul a b
  have h2 : a.natAbs * b.natAbs ≤ 2147483647 * 2147483647 := Nat.mul_le_mul (by omega) (by omega)
  omega
theorem Ok.num {n d : Int} (h : Ok n d) : -2147483647 ≤ n ∧ n ≤ 2147483647 := ⟨h.1, h.2.1⟩
theorem Ok.den {n d : Int} (h : Ok n d) : -2147483647 ≤ d ∧ d ≤ 2147483647 := by obtain ⟨h1, h2, h3, h4, h5⟩ := h; omega
theorem Ok.pos {n d : Int} (h : Ok n d) : 0 < d := by obtain ⟨h1, h2, h3, h4, h5⟩ := h; omega
theorem Ok.in1 {n d : Int} (h : Ok n d) : In n := by obtain ⟨h1, h2, h3, h4, h5⟩ := h; unfold In; omega
theorem Ok.in2 {n d : Int} (h : Ok n d) : In d := by obtain ⟨h1, h2, h3, h4, h5⟩ := h; unfold In; omega
/-- What two ratios make: their numbers out of a closure. -/
def twoP (a1 a2 b1 b2 x y : Int) : (Int × Int) × Int := if Ok a1 a2 ∧ Ok b1 b2 then mkP x y else ((0, 0), 20)
def minusP (a1 a2 b1 b2 : Int) : (Int × Int) × Int := twoP a1 a2 b1 b2 (a1 * b2 - b1 * a2) (a2 * b2)
def addRP (a1 a2 b1 b2 : Int) : (Int × Int) × Int := twoP a1 a2 b1 b2 (a1 * b2 + b1 * a2) (a2 * b2)
def mulRP (a1 a2 b1 b2 : Int) : (Int × Int) × Int := twoP a1 a2 b1 b2 (a1 * b1) (a2 * b2)
def divRP (a1 a2 b1 b2 : Int) : (Int × Int) × Int := twoP a1 a2 b1 b2 (a1 * b2) (a2 * b1)
theorem twoP_ok {a1 a2 b1 b2 x y : Int} (ha : Ok a1 a2) (hb : Ok b1 b2) : twoP a1 a2 b1 b2 x y = mkP x y := by rw [twoP, if_pos ⟨ha, hb⟩]
theorem twoP_no {a1 a2 b1 b2 x y : Int} (h : ¬ (Ok a1 a2 ∧ Ok b1 b2)) : twoP a1 a2 b1 b2 x y = ((0, 0), 20) := by rw [twoP, if_neg h]

/-! ### sums, which is less, the nearest number -/
def sumRFrom (o1 o2 : Int) : List (Int × Int) → (Int × Int) × Int
  | [] => ((o1, o2), 0)
  | r :: l => if (addRP o1 o2 r.1 r.2).2 = 0 then sumRFrom (addRP o1 o2 r.1 r.2).1.1 (addRP o1 o2 r.1 r.2).1.2 l else ((0, 0), (addRP o1 o2 r.1 r.2).2)
def AllOk (l : List (Int × Int)) : Prop := ∀ r ∈ l, Ok r.1 r.2
instance (l : List (Int × Int)) : Decidable (AllOk l) := by unfold AllOk; infer_instance
def sumRP (l : List (Int × Int)) : (Int × Int) × Int := if AllOk l then sumRFrom 0 1 l else ((0, 0), 20)
def lessP (a1 a2 b1 b2 : Int) : Bool := decide (Ok a1 a2 ∧ Ok b1 b2 ∧ a1 * b2 < b1 * a2)
def halfRP (a1 a2 : Int) : Int := if Ok a1 a2 then (halfP a1 a2).1 else 0

theorem sumRFrom_ok {o1 o2 x y : Int} {r : Int × Int} {l : List (Int × Int)} (h : addRP o1 o2 r.1 r.2 = ((x, y), 0)) : sumRFrom o1 o2 (r :: l) = sumRFrom x y l := by
  rw [sumRFrom, h]; rfl
theorem sumRFrom_err {o1 o2 x y e : Int} {r : Int × Int} {l : List (Int × Int)} (h : addRP o1 o2 r.1 r.2 = ((x, y), e)) (he : e ≠ 0) : sumRFrom o1 o2 (r :: l) = ((0, 0), e) := by
  rw [sumRFrom, h, if_neg he]
/-- What two ratios that may be make, without an error, may be. -/
theorem two_ok {a1 a2 b1 b2 x y u v : Int} (hx : Ok a1 a2 → Ok b1 b2 → In x ∧ In y) (h : twoP a1 a2 b1 b2 x y = ((u, v), 0)) : Ok a1 a2 ∧ Ok b1 b2 ∧ Ok u v ∧ u * y = x * v ∧ 0 < y := by
  by_cases c : Ok a1 a2 ∧ Ok b1 b2
  · rw [twoP_ok c.1 c.2] at h
    obtain ⟨i1, i2⟩ := hx c.1 c.2
    obtain ⟨h1, h2, h3⟩ := mkP_is_ok i1 i2 h
    exact ⟨c.1, c.2, h1, h2, h3⟩
  · rw [twoP_no c] at h
    cases h
theorem add_in {a1 a2 b1 b2 : Int} (oa : Ok a1 a2) (ob : Ok b1 b2) : In (a1 * b2 + b1 * a2) ∧ In (a2 * b2) := by
  have p0 := prod31 oa.num ob.den
  have p1 := prod31 ob.num oa.den
  have p2 := prod31 oa.den ob.den
  unfold In
  omega
theorem minus_in {a1 a2 b1 b2 : Int} (oa : Ok a1 a2) (ob : Ok b1 b2) : In (a1 * b2 - b1 * a2) ∧ In (a2 * b2) := by
  have p0 := prod31 oa.num ob.den
  have p1 := prod31 ob.num oa.den
  have p2 := prod31 oa.den ob.den
  unfold In
  omega
theorem mul_in {a1 a2 b1 b2 : Int} (oa : Ok a1 a2) (ob : Ok b1 b2) : In (a1 * b1) ∧ In (a2 * b2) := by
  have p0 := prod31 oa.num ob.num
  have p2 := prod31 oa.den ob.den
  unfold In
  omega
theorem div_in {a1 a2 b1 b2 : Int} (oa : Ok a1 a2) (ob : Ok b1 b2) : In (a1 * b2) ∧ In (a2 * b1) := by
  have p0 := prod31 oa.num ob.den
  have p2 := prod31 oa.den ob.num
  unfold In
  omega
theorem getD_mem2 {l : List (Int × Int)} {k : Nat} (h : k < l.length) : l.getD k (0, 0) ∈ l := by
  rw [List.getD_eq_getElem?_getD, List.getElem?_eq_getElem h]; simp
theorem drop_getD2 {l : List (Int × Int)} {k : Nat} (h : k < l.length) : l.drop k = l.getD k (0, 0) :: l.drop (k + 1) := by
  rw [List.drop_eq_getElem_cons h, List.getD_eq_getElem?_getD, List.getElem?_eq_getElem h]; rfl
end Lu
