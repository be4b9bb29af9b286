/- THE WALK of RatioHalf: it returns true, and turns nothing that was there. -/
import Derived.Test.YtangogkmilpfiaaRatioUp
import Derived.Test.YtangogkmilpfiaaNumUp
namespace Go.Proofs.Ytangogkmilpfiaa
open Go.RowKit Lu

set_option maxHeartbeats 1000000 in
theorem ratioHalf_walk (a1 a2 : Int) (ha1 : In a1) (ha2 : In a2) (w : World) :
    Calls Try.prog 14 #[.agg #[.int .i64 a1, .int .i64 a2]] w fun e w' => e = .returned (.bool true) ∧ Below w.heap.size w w' := by
  by_cases oa : Ok a1 a2
  · have r1 := oa.num
    have r2 := oa.pos
    have r3 := oa.den
    have D := divP_pos (a := a1) r2
    have m0 := Int.emod_nonneg a1 (show a2 ≠ 0 by omega)
    have m1 := Int.emod_lt_of_pos a1 r2
    have m2 := Int.mul_ediv_add_emod a1 a2
    have q1 : (a1 / a2).natAbs ≤ a1.natAbs := by
      rcases Int.le_total 0 a1 with h | h
      · have := Int.ediv_nonneg h (Int.le_of_lt r2)
        have := Int.ediv_le_self a2 h
        omega
      · have h1 : -2147483647 ≤ a1 / a2 := Int.le_ediv_of_mul_le r2 (by
          have : (-2147483647 : Int) * a2 ≤ -2147483647 * 1 := Int.mul_le_mul_of_nonpos_left (by decide) (by omega)
          omega)
        have h2 : a1 / a2 ≤ 0 := by
          apply Classical.byContradiction
          intro hc
          have : a2 * 1 ≤ a2 * (a1 / a2) := Int.mul_le_mul_of_nonneg_left (by omega) (by omega)
          omega
        have h3 : a1 ≤ a1 / a2 := Int.le_ediv_of_mul_le r2 (by
          have : a1 * a2 ≤ a1 * 1 := Int.mul_le_mul_of_nonpos_left h (by omega)
          omega)
        omega
    have ways : ∃ h, halfRP a1 a2 = h ∧ ((h == a1 / a2) = true ∧ 2 * a1 - 2 * h * a2 = 2 * (a1 % a2) ∧ a1 % a2 < a2 - a1 % a2 ∨ (h == a1 / a2) = false ∧ h = a1 / a2 + 1 ∧ 2 * a1 - 2 * h * a2 = 2 * (a1 % a2) - 2 * a2 ∧ a2 - a1 % a2 ≤ a1 % a2) ∧ -2147483648 ≤ h ∧ h ≤ 2147483648 := by
      unfold halfRP
      rw [if_pos oa]
      have mm : 2 * (a1 / a2) * a2 = 2 * (a2 * (a1 / a2)) := by rw [Int.mul_assoc, Int.mul_comm (a1 / a2)]
      by_cases c : a2 - a1 % a2 ≤ a1 % a2
      · rw [halfP_more r2 c]
        refine ⟨a1 / a2 + 1, rfl, Or.inr ⟨by simp; omega, rfl, ?_, c⟩, by omega, by omega⟩
        have : 2 * (a1 / a2 + 1) * a2 = 2 * (a1 / a2) * a2 + 2 * a2 := by rw [Int.mul_add, Int.add_mul]; omega
        omega
      · rw [halfP_less r2 c]
        exact ⟨a1 / a2, rfl, Or.inl ⟨by simp, by omega, by omega⟩, by omega, by omega⟩
    obtain ⟨h, hh, ways, b1, b2⟩ := ways
    have HH := Lib.hid hh
    have DD := Lib.hid D
    have p1 : (h * a2).natAbs = h.natAbs * a2.natAbs := Int.natAbs_mul _ _
    have p2 : h.natAbs * a2.natAbs ≤ 2147483648 * 2147483647 := Nat.mul_le_mul (by omega) (by omega)
    have p3 : 2 * h * a2 = 2 * (h * a2) := Int.mul_assoc _ _ _
    have i1 : -9223372036854775808 ≤ 2 * h * a2 ∧ 2 * h * a2 ≤ 9223372036854775807 := by omega
    have i2 : -9223372036854775808 ≤ 2 * a1 - 2 * h * a2 ∧ 2 * a1 - 2 * h * a2 ≤ 9223372036854775807 := by rcases ways with w | w <;> omega
    have t1 : 2 * a1 - 2 * h * a2 < a2 := by rcases ways with w | w <;> omega
    have t2 : -a2 ≤ 2 * a1 - 2 * h * a2 := by rcases ways with w | w <;> omega
    have ways2 : (h == a1 / a2) = true ∨ ((h == a1 / a2) = false ∧ (h == a1 / a2 + 1) = true) := by
      rcases ways with w | w
      · exact Or.inl w.1
      · exact Or.inr ⟨w.1, by simp [w.2.1]⟩
    clear hh D p1 p2 p3 m0 m1 m2 ways
    generalize a1 / a2 = q at *
    go_enter Try.func14, Try.ntmps14
    go_wp2_with fail
    refine (awake02 _).mono ?_
    rintro e1 w1 ⟨rfl, k1⟩
    have B1 : Below w.heap.size w w1 := ((Below.refl _ _).alloc (by first | exact Nat.le_refl _ | (simp; done) | (simp; omega) | omega) _).trans (k1.mono (by first | exact Nat.le_refl _ | (simp; done) | (simp; omega) | omega))
    have R_a : Rat w1 (w.heap.size) (a1) (a2) := (Rat.new' (by simp)).below k1
    clear k1
    obtain ⟨l_a, c_a, d_a⟩ := id R_a
    go_wp2_with fail
    refine (ratio_Check_yes a1 a2 oa _).mono ?_
    rintro e2 w2 ⟨rfl, k2⟩
    have B2 : Below w.heap.size w w2 := by have z := B1.size; exact B1.trans (k2.mono (by first | exact Nat.le_refl _ | (simp; done) | (simp; omega) | omega))
    replace R_a := R_a.below k2
    clear k2 l_a c_a d_a
    obtain ⟨l_a, c_a, d_a⟩ := id R_a
    go_wp2_with fail
    refine (ratio_Half_is a1 a2 h _ ha1 ha2 HH.out).mono ?_
    rintro e3 w3 ⟨rfl, k3⟩
    have B3 : Below w.heap.size w w3 := by have z := B2.size; exact B2.trans (k3.mono (by first | exact Nat.le_refl _ | (simp; done) | (simp; omega) | omega))
    replace R_a := R_a.below k3
    clear k3 l_a c_a d_a
    obtain ⟨l_a, c_a, d_a⟩ := id R_a
    go_wp2_with fail
    refine (num_Div_is _ _ _ _ _ ha1 ha2 DD.out).mono ?_
    rintro e4 w4 ⟨rfl, n4, rfl⟩
    rcases ways2 with u1 | ⟨u1, u2⟩
    all_goals
      go_wp2_with fail
      go_ret
      exact ⟨rfl, below_drewN B3 _⟩
  · have HH := Lib.hid (show halfRP a1 a2 = 0 by unfold halfRP; rw [if_neg oa])
    go_enter Try.func14, Try.ntmps14
    go_wp2_with fail
    refine (awake02 _).mono ?_
    rintro e1 w1 ⟨rfl, k1⟩
    have B1 : Below w.heap.size w w1 := ((Below.refl _ _).alloc (by first | exact Nat.le_refl _ | (simp; done) | (simp; omega) | omega) _).trans (k1.mono (by first | exact Nat.le_refl _ | (simp; done) | (simp; omega) | omega))
    have R_a : Rat w1 (w.heap.size) (a1) (a2) := (Rat.new' (by simp)).below k1
    clear k1
    obtain ⟨l_a, c_a, d_a⟩ := id R_a
    go_wp2_with fail
    refine (ratio_Check_no a1 a2 ha1 ha2 oa _).mono ?_
    rintro e2 w2 ⟨rfl, k2⟩
    have B2 : Below w.heap.size w w2 := by have z := B1.size; exact B1.trans (k2.mono (by first | exact Nat.le_refl _ | (simp; done) | (simp; omega) | omega))
    replace R_a := R_a.below k2
    clear k2 l_a c_a d_a
    obtain ⟨l_a, c_a, d_a⟩ := id R_a
    go_wp2_with fail
    refine (ratio_Half_is a1 a2 0 _ ha1 ha2 HH.out).mono ?_
    rintro e3 w3 ⟨rfl, k3⟩
    have B3 : Below w.heap.size w w3 := by have z := B2.size; exact B2.trans (k3.mono (by first | exact Nat.le_refl _ | (simp; done) | (simp; omega) | omega))
    replace R_a := R_a.below k3
    clear k3 l_a c_a d_a
    obtain ⟨l_a, c_a, d_a⟩ := id R_a
    go_wp2_with fail
    go_ret
    exact ⟨rfl, B3⟩
end Go.Proofs.Ytangogkmilpfiaa
