/- THE PLAIN LAWS of layer 2 (ratio). No Go in sight. -/
import Derived.Test.YtnjckaifgmliaaaPlainRatio
set_option linter.unusedVariables false
namespace Lu

/-- A ratio that is as much, and may be, is the one that is made. -/
theorem mkP_unique {n d x y : Int} (hn : -9223372036854775807 ≤ n ∧ n ≤ 9223372036854775807) (hd : In d) (h0 : 0 < d) (o : Ok x y) (h : x * d = n * y) : mkP n d = ((x, y), 0) := by
  obtain ⟨o1, o2, o3, o4, o5⟩ := o
  have hdv : y.natAbs ∣ d.natAbs := by
    have h1 : y.natAbs ∣ x.natAbs * d.natAbs := by rw [← Int.natAbs_mul, h, Int.natAbs_mul]; exact Nat.dvd_mul_left _ _
    exact Nat.Coprime.dvd_of_dvd_mul_left (k := y.natAbs) (by rw [Nat.coprime_comm]; exact o5) h1
  obtain ⟨k, hk⟩ := hdv
  have hk0 : 0 < k := by
    apply Nat.pos_of_ne_zero
    intro e
    rw [e, Nat.mul_zero] at hk
    omega
  have ed : d = y * (k : Int) := by
    have : (d.natAbs : Int) = (y.natAbs : Int) * (k : Int) := by rw [hk, Int.natCast_mul]
    rw [Int.natAbs_of_nonneg (by omega), Int.natAbs_of_nonneg (by omega)] at this
    exact this
  have en : n = x * (k : Int) := by
    have h2 : x * (y * (k : Int)) = n * y := by rw [← ed]; exact h
    have h3 : (x * (k : Int)) * y = n * y := by rw [← h2, Int.mul_assoc, Int.mul_comm (k : Int) y]
    exact (Int.eq_of_mul_eq_mul_right (by omega) h3).symm
  by_cases n0 : n = 0
  · have x0 : x = 0 := by
      rcases Int.mul_eq_zero.1 (en.symm.trans n0) with h | h
      · exact h
      · omega
    subst x0
    have y1 : y = 1 := by simp at o5; omega
    subst y1
    subst n0
    exact mkP_none h0
  · have sn : sideN n = x.natAbs * k := by rw [sideN_small hn.1, en, Int.natAbs_mul, Int.natAbs_natCast]
    have sd : sideN d = y.natAbs * k := by rw [sideN_small (by omega), ed, Int.natAbs_mul, Int.natAbs_natCast]
    have hg : gcdP n d = (k : Int) := by
      unfold gcdP
      rw [sn, sd, Nat.gcd_mul_right, o5, Nat.one_mul]
    have q1 : n.tdiv (gcdP n d) = x := by rw [hg, en, Int.mul_tdiv_cancel _ (by omega)]
    have q2 : d / gcdP n d = y := by rw [hg, ed, Int.mul_ediv_cancel _ (by omega)]
    rw [mkP_in h0 n0 (by rw [q1, q2]; omega), q1, q2]

theorem ok_eq {a1 a2 b1 b2 : Int} (oa : Ok a1 a2) (ob : Ok b1 b2) (h : a1 * b2 = b1 * a2) : a1 = b1 ∧ a2 = b2 := by
  have h1 := mkP_ok oa
  have h2 := mkP_unique (n := a1) (d := a2) (x := b1) (y := b2) (by have := oa.num; omega) oa.in2 oa.pos ob h.symm
  rw [h1] at h2
  exact ⟨congrArg (fun r => r.1.1) h2, congrArg (fun r => r.1.2) h2⟩

/-- With an error the pair is 0 and 0. -/
theorem mkP_err {n d x y e : Int} (h : mkP n d = ((x, y), e)) (he : e ≠ 0) : x = 0 ∧ y = 0 := by
  by_cases c : d ≤ 0
  · rw [mkP_zero c] at h; cases h; exact ⟨rfl, rfl⟩
  · by_cases n0 : n = 0
    · subst n0
      rw [mkP_none (by omega)] at h
      cases h
      exact absurd rfl he
    · by_cases c1 : 2147483647 < n.tdiv (gcdP n d) ∨ n.tdiv (gcdP n d) < -2147483647 ∨ 2147483647 < d / gcdP n d
      · rw [mkP_over (by omega) n0 c1] at h; cases h; exact ⟨rfl, rfl⟩
      · rw [mkP_in (by omega) n0 c1] at h; cases h; exact absurd rfl he
theorem twoP_err {a1 a2 b1 b2 x y u v e : Int} (h : twoP a1 a2 b1 b2 x y = ((u, v), e)) (he : e ≠ 0) : u = 0 ∧ v = 0 := by
  by_cases c : Ok a1 a2 ∧ Ok b1 b2
  · rw [twoP_ok c.1 c.2] at h
    exact mkP_err h he
  · rw [twoP_no c] at h
    cases h
    exact ⟨rfl, rfl⟩
theorem not_ok_zero : ¬ Ok 0 0 := by decide

theorem addRP_zero {a1 a2 : Int} (oa : Ok a1 a2) : addRP 0 1 a1 a2 = ((a1, a2), 0) := by
  unfold addRP
  rw [twoP_ok (by decide) oa, Int.zero_mul, Int.zero_add, Int.mul_one, Int.one_mul, mkP_ok oa]
theorem sumRP_pair (a1 a2 b1 b2 : Int) : sumRP [(a1, a2), (b1, b2)] = addRP a1 a2 b1 b2 := by
  by_cases oa : Ok a1 a2
  · by_cases ob : Ok b1 b2
    · have hall : AllOk [(a1, a2), (b1, b2)] := by intro r hr; simp at hr; rcases hr with rfl | rfl <;> assumption
      unfold sumRP
      rw [if_pos hall, sumRFrom_ok (r := (a1, a2)) (addRP_zero oa)]
      obtain ⟨u, v, e, h⟩ : ∃ u v e, addRP a1 a2 b1 b2 = ((u, v), e) := ⟨_, _, _, rfl⟩
      by_cases he : e = 0
      · subst he
        rw [sumRFrom_ok (r := (b1, b2)) h, h]
        rfl
      · rw [sumRFrom_err (r := (b1, b2)) h he, h, (twoP_err h he).1, (twoP_err h he).2]
    · have hall : ¬ AllOk [(a1, a2), (b1, b2)] := fun h => ob (h (b1, b2) (by simp))
      unfold sumRP addRP
      rw [if_neg hall, twoP_no (fun h => ob h.2)]
  · have hall : ¬ AllOk [(a1, a2), (b1, b2)] := fun h => oa (h (a1, a2) (by simp))
    unfold sumRP addRP
    rw [if_neg hall, twoP_no (fun h => oa h.1)]
theorem twoP_comm {a1 a2 b1 b2 x y x' y' : Int} (hx : x = x') (hy : y = y') : twoP a1 a2 b1 b2 x y = twoP b1 b2 a1 a2 x' y' := by
  subst hx; subst hy
  unfold twoP
  by_cases c : Ok a1 a2 ∧ Ok b1 b2
  · rw [if_pos c, if_pos ⟨c.2, c.1⟩]
  · rw [if_neg c, if_neg (fun h => c ⟨h.2, h.1⟩)]
theorem addRP_comm (a1 a2 b1 b2 : Int) : addRP b1 b2 a1 a2 = addRP a1 a2 b1 b2 := by
  unfold addRP
  exact twoP_comm (Int.add_comm _ _) (Int.mul_comm _ _)
theorem mulRP_comm (a1 a2 b1 b2 : Int) : mulRP b1 b2 a1 a2 = mulRP a1 a2 b1 b2 := by
  unfold mulRP
  exact twoP_comm (Int.mul_comm _ _) (Int.mul_comm _ _)
/-- What is added is taken away again. -/
theorem add_back {a1 a2 b1 b2 u v : Int} (h : addRP a1 a2 b1 b2 = ((u, v), 0)) : minusP u v b1 b2 = ((a1, a2), 0) := by
  obtain ⟨oa, ob, ou, h1, h2⟩ := two_ok (fun h1 h2 => add_in h1 h2) h
  have hin := minus_in ou ob
  unfold minusP
  rw [twoP_ok ou ob]
  have p0 := prod31 ou.num ob.den
  have p1 := prod31 ob.num ou.den
  refine mkP_unique (by omega) hin.2 (Int.mul_pos ou.pos ob.pos) oa ?_
  simp only [Int.mul_sub, Int.mul_add, Int.mul_comm, Int.mul_left_comm] at h1 ⊢
  omega
/-- What is multiplied is divided again, by what is above 0. -/
theorem mul_back {a1 a2 b1 b2 u v : Int} (h : mulRP a1 a2 b1 b2 = ((u, v), 0)) (hb : 0 < b1) : divRP u v b1 b2 = ((a1, a2), 0) := by
  obtain ⟨oa, ob, ou, h1, h2⟩ := two_ok (fun h1 h2 => mul_in h1 h2) h
  have hin := div_in ou ob
  unfold divRP
  rw [twoP_ok ou ob]
  have p0 := prod31 ou.num ob.den
  refine mkP_unique (by omega) hin.2 (Int.mul_pos ou.pos hb) oa ?_
  simp only [Int.mul_comm, Int.mul_left_comm] at h1 ⊢
  omega
theorem two_range {a1 a2 b1 b2 x y u v e : Int} (h : twoP a1 a2 b1 b2 x y = ((u, v), e)) : In u ∧ In v := by
  by_cases c : Ok a1 a2 ∧ Ok b1 b2
  · rw [twoP_ok c.1 c.2] at h
    have := mkP_in64 (n := x) (d := y)
    rw [h] at this
    exact ⟨this.1, this.2.1⟩
  · rw [twoP_no c] at h
    cases h
    decide
/-- Whether there is no error tells whether what is told may be. -/
theorem two_tells {a1 a2 b1 b2 x y u v e : Int} (hx : Ok a1 a2 → Ok b1 b2 → In x ∧ In y) (h : twoP a1 a2 b1 b2 x y = ((u, v), e)) : (e == 0) = decide (Ok u v) := by
  by_cases he : e = 0
  · subst he
    have := (two_ok hx h).2.2.1
    simp [this]
  · obtain ⟨rfl, rfl⟩ := twoP_err h he
    simp [he, not_ok_zero]
/-- So many times a number through so many times another one. -/
theorem mkP_scale {n d k : Int} (hn : -2147483648 ≤ n ∧ n ≤ 2147483647) (hd : 0 ≤ d ∧ d ≤ 65535) (hk : 1 ≤ k ∧ k ≤ 65536) : mkP (n * k) (d * k) = mkP n d := by
  have b1 : (n * k).natAbs = n.natAbs * k.natAbs := Int.natAbs_mul _ _
  have b2 : n.natAbs * k.natAbs ≤ 2147483648 * 65536 := Nat.mul_le_mul (by omega) (by omega)
  have b3 : (d * k).natAbs = d.natAbs * k.natAbs := Int.natAbs_mul _ _
  by_cases d0 : d = 0
  · subst d0; rw [Int.zero_mul, mkP_zero (by decide), mkP_zero (by decide)]
  · have hdk : 0 < d * k := Int.mul_pos (by omega) (by omega)
    by_cases n0 : n = 0
    · subst n0; rw [Int.zero_mul, mkP_none hdk, mkP_none (by omega)]
    · have nk : n * k ≠ 0 := by
        intro h
        rcases Int.mul_eq_zero.1 h with h | h <;> omega
      have hg : gcdP (n * k) (d * k) = gcdP n d * k := by
        unfold gcdP
        rw [sideN_small (by omega), sideN_small (by omega), sideN_small (by omega), sideN_small (by omega), b1, b3, Nat.gcd_mul_right, Int.natCast_mul, Int.natAbs_of_nonneg (by omega : 0 ≤ k)]
      have q1 : (n * k).tdiv (gcdP (n * k) (d * k)) = n.tdiv (gcdP n d) := by rw [hg, Int.mul_tdiv_mul_of_pos_left _ _ (by omega)]
      have q2 : (d * k) / gcdP (n * k) (d * k) = d / gcdP n d := by rw [hg, Int.mul_ediv_mul_of_pos_left _ _ (by omega)]
      unfold mkP
      rw [q1, q2, if_neg (show ¬ d * k ≤ 0 by omega), if_neg nk, if_neg (show ¬ d ≤ 0 by omega), if_neg n0]
end Lu
