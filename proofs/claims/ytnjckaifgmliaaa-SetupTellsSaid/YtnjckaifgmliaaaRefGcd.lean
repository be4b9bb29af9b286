/- THE WALK of lumperref01.Gcd. -/
import Derived.Test.YtnjckaifgmliaaaRefNum
set_option linter.unusedSimpArgs false
set_option linter.unusedVariables false
namespace Go.Proofs.Ytnjckaifgmliaaa
open Go.RowKit Lu

theorem gcdP_step {a b : Int} (ha : 0 ≤ a) (ha' : a ≤ 9223372036854775807) (hb : 0 < b) (hb' : b ≤ 9223372036854775807) : gcdP b (a % b) = gcdP a b := by
  have h1 := Int.emod_nonneg a (show b ≠ 0 by omega)
  have h2 := Int.emod_lt_of_pos a hb
  obtain ⟨x, rfl⟩ := Int.eq_ofNat_of_zero_le ha
  obtain ⟨y, rfl⟩ := Int.eq_ofNat_of_zero_le (Int.le_of_lt hb)
  unfold gcdP sideN
  rw [if_neg (by omega), if_neg (by omega), if_neg (by omega)]
  have e : ((x : Int) % (y : Int)).natAbs = x % y := by rw [← Int.natCast_emod]; rfl
  rw [e, Int.natAbs_natCast, Int.natAbs_natCast, Nat.gcd_comm x y, Nat.gcd_rec y x, Nat.gcd_comm]
theorem gcdP_zero {a : Int} (ha : 0 ≤ a) (ha' : a ≤ 9223372036854775807) : gcdP a 0 = a := by
  unfold gcdP sideN
  rw [if_neg (by omega), if_neg (by decide)]
  simp
  omega
/-- Of two that are not below 0. -/
theorem ref_Gcd_k (k : Nat) : ∀ (a b : Int) (w : World), b ≤ k → 0 ≤ a → a ≤ 9223372036854775807 → 0 ≤ b → b ≤ 9223372036854775807 →
    Calls Try.prog 100 #[.int .i64 a, .int .i64 b] w fun e w' => e = .returned (.int .i64 (gcdP a b)) ∧ w = w' := by
  induction k with
  | zero =>
    intro a b w hk h1 h2 h3 h4
    obtain rfl : b = 0 := by omega
    have da : (a == -9223372036854775808) = false := by simp; omega
    have dm : max a (-a) = a := by omega
    go_enter Try.func100, Try.ntmps100
    go_wp2_with fail
    go_ret
    exact ⟨ret_i64 (by rw [gcdP_zero h1 h2]), rfl⟩
  | succ k ih =>
    intro a b w hk h1 h2 h3 h4
    have da : (a == -9223372036854775808) = false := by simp; omega
    have db : (b == -9223372036854775808) = false := by simp; omega
    by_cases b0 : b = 0
    · subst b0
      clear ih
      go_enter Try.func100, Try.ntmps100
      go_wp2_with fail
      go_ret
      exact ⟨ret_i64 (by rw [gcdP_zero h1 h2]), rfl⟩
    · have d0 : (b == 0) = false := by simp [b0]
      have m1 := Int.emod_nonneg a (show b ≠ 0 by omega)
      have m2 := Int.emod_lt_of_pos a (show 0 < b by omega)
      have self := ih b (a % b) w (by omega) h3 h4 m1 (by omega)
      rw [gcdP_step h1 h2 (by omega) h4] at self
      have SELF := Lib.hid self
      clear self ih
      go_enter Try.func100, Try.ntmps100
      go_wp2_with fail
      refine SELF.out.mono ?_
      rintro e w' ⟨rfl, rfl⟩
      go_wp2_with fail
      go_ret
      exact ⟨rfl, rfl⟩

theorem gcdP_side (a b : Int) (ha : In a) (hb : In b) : gcdP a b = gcdP (sideN a) (sideN b) := by
  have h1 := sideN_le ha
  have h2 := sideN_le hb
  unfold gcdP
  have e : ∀ x : Nat, (x : Int) ≤ 9223372036854775807 → sideN (x : Int) = x := by
    intro x _
    unfold sideN
    rw [if_neg (by omega)]
    rfl
  rw [e _ h1, e _ h2]
/-- lumperref01.Gcd. -/
theorem ref_Gcd (a b : Int) (ha : In a) (hb : In b) (w : World) :
    Calls Try.prog 100 #[.int .i64 a, .int .i64 b] w fun e w' => e = .returned (.int .i64 (gcdP a b)) ∧ w = w' := by
  have ha' := ha
  have hb' := hb
  unfold In at ha' hb'
  -- what each number is turned into, and that it is its side
  obtain ⟨x, hx⟩ : ∃ x : Int, (sideN a : Int) = x := ⟨_, rfl⟩
  obtain ⟨y, hy⟩ : ∃ y : Int, (sideN b : Int) = y := ⟨_, rfl⟩
  have hg : gcdP a b = gcdP x y := by rw [gcdP_side a b ha hb, hx, hy]
  have hxl := sideN_le ha
  have hyl := sideN_le hb
  rw [hx] at hxl
  rw [hy] at hyl
  have hx0 : 0 ≤ x := by omega
  have hy0 : 0 ≤ y := by omega
  have ways : ∀ c z : Int, In c → (sideN c : Int) = z → (c = -9223372036854775808 ∧ z = 4611686018427387904) ∨ c = z ∨ (c = -z ∧ 0 < z) := by
    intro c z hc hz
    unfold In at hc
    by_cases h : c = -9223372036854775808
    · left; refine ⟨h, ?_⟩; rw [← hz, h]; rfl
    · unfold sideN at hz
      rw [if_neg h] at hz
      omega
  have ax := ways a x ha hx
  have ay := ways b y hb hy
  clear hx hy ways
  rw [hg]
  clear hg
  by_cases y0 : y = 0
  · subst y0
    rw [gcdP_zero hx0 hxl]
    rcases ay with ⟨rfl, c4⟩ | rfl | ⟨rfl, hy1⟩
    all_goals try omega
    rcases ax with ⟨rfl, rfl⟩ | rfl | ⟨rfl, hx1⟩
    · go_enter Try.func100, Try.ntmps100
      go_wp2_with fail
      go_ret
      exact ⟨rfl, rfl⟩
    · have d1 : (a == -9223372036854775808) = false := by simp; omega
      go_enter Try.func100, Try.ntmps100
      go_wp2_with fail
      go_ret
      exact ⟨rfl, rfl⟩
    · have d1 : (-x == -9223372036854775808) = false := by simp; omega
      go_enter Try.func100, Try.ntmps100
      go_wp2_with fail
      go_ret
      exact ⟨rfl, rfl⟩
  · have m1 := Int.emod_nonneg x (show y ≠ 0 by omega)
    have m2 := Int.emod_lt_of_pos x (show 0 < y by omega)
    have self := ref_Gcd_k y.toNat y (x % y) w (by omega) (by omega) hyl m1 (by omega)
    rw [gcdP_step hx0 hxl (by omega) hyl] at self
    have SELF := Lib.hid self
    have d0 : (y == 0) = false := by simp [y0]
    clear self
    generalize gcdP x y = g at *
    rcases ax with ⟨rfl, rfl⟩ | rfl | ⟨rfl, hx1⟩ <;> rcases ay with ⟨rfl, rfl⟩ | rfl | ⟨rfl, hy1⟩
    all_goals
      try (have dx : (a == -9223372036854775808) = false := by simp; omega)
      try (have dx' : (-x == -9223372036854775808) = false := by simp; omega)
      try (have dy : (b == -9223372036854775808) = false := by simp; omega)
      try (have dy' : (-y == -9223372036854775808) = false := by simp; omega)
      go_enter Try.func100, Try.ntmps100
      go_wp2_with fail
      refine SELF.out.mono ?_
      rintro e w' ⟨rfl, rfl⟩
      go_wp2_with fail
      go_ret
      exact ⟨rfl, rfl⟩
end Go.Proofs.Ytnjckaifgmliaaa
