/- THE WALK of RatioScale: it returns true, and turns nothing that was there. -/
import Derived.Test.YtangogkmilpfiaaRatioUp
import Derived.Test.YtangogkmilpfiaaPlainRatio2
namespace Go.Proofs.Ytangogkmilpfiaa
open Go.RowKit Lu

set_option maxHeartbeats 1000000 in
theorem ratioScale_walk (n d k : Int) (hn : -2147483648 ≤ n ∧ n ≤ 2147483647) (hd : 0 ≤ d ∧ d ≤ 65535) (hk : 0 ≤ k ∧ k ≤ 65535) (w : World) :
    Calls Try.prog 13 #[.int .i32 n, .int .u16 d, .int .u16 k] w fun e w' => e = .returned (.bool true) ∧ Below w.heap.size w w' := by
  obtain ⟨x, y, e, hm⟩ : ∃ x y e, mkP n d = ((x, y), e) := ⟨_, _, _, rfl⟩
  have hm2 := (mkP_scale hn hd (k := k + 1) (by omega)).trans hm
  have b1 : (n * (k + 1)).natAbs = n.natAbs * (k + 1).natAbs := Int.natAbs_mul _ _
  have b2 : n.natAbs * (k + 1).natAbs ≤ 2147483648 * 65536 := Nat.mul_le_mul (by omega) (by omega)
  have b3 : (d * (k + 1)).natAbs = d.natAbs * (k + 1).natAbs := Int.natAbs_mul _ _
  have b4 : d.natAbs * (k + 1).natAbs ≤ 65535 * 65536 := Nat.mul_le_mul (by omega) (by omega)
  have n1 : -9223372036854775808 ≤ n * (k + 1) ∧ n * (k + 1) ≤ 9223372036854775807 := by omega
  have d1 : -9223372036854775808 ≤ d * (k + 1) ∧ d * (k + 1) ≤ 9223372036854775807 := by omega
  have hnk : In (n * (k + 1)) := n1
  have hdk : In (d * (k + 1)) := d1
  have hn' : In n := by unfold In; omega
  have hd' : In d := by unfold In; omega
  have ways : ((d == 0) = true ∧ (e == 20) = true) ∨ ((d == 0) = false ∧ (e == 20) = false) := by
    by_cases d0 : d = 0
    · subst d0
      rw [mkP_zero (by decide)] at hm
      cases hm
      exact Or.inl ⟨rfl, rfl⟩
    · refine Or.inr ⟨by simp [d0], ?_⟩
      by_cases n0 : n = 0
      · subst n0
        rw [mkP_none (by omega)] at hm
        cases hm
        rfl
      · by_cases c1 : 2147483647 < n.tdiv (gcdP n d) ∨ n.tdiv (gcdP n d) < -2147483647 ∨ 2147483647 < d / gcdP n d
        · rw [mkP_over (by omega) n0 c1] at hm; cases hm; rfl
        · rw [mkP_in (by omega) n0 c1] at hm; cases hm; rfl
  have HM := Lib.hid hm
  have HM2 := Lib.hid hm2
  clear hm hm2 b1 b2 b3 b4
  rcases ways with ⟨t1, t2⟩ | ⟨t1, t2⟩
  all_goals
    go_enter Try.func13, Try.ntmps13
    go_wp2_with fail
    refine (awake02 _).mono ?_
    rintro e1 w1 ⟨rfl, k1⟩
    have B1 : Below w.heap.size w w1 := (Below.refl _ _).trans (k1.mono (by first | exact Nat.le_refl _ | (simp; done) | (simp; omega) | omega))
    clear k1
    go_wp2_with fail
    refine (ratio_Make_is n d x y e _ hn' hd' HM.out).mono ?_
    rintro e2 w2 ⟨rfl, k2⟩
    have B2 : Below w.heap.size w w2 := by have z := B1.size; exact B1.trans (k2.mono (by first | exact Nat.le_refl _ | (simp; done) | (simp; omega) | omega))
    clear k2
    go_wp2_with fail
    refine (ratio_Make_is (n * (k + 1)) (d * (k + 1)) x y e _ hnk hdk HM2.out).mono ?_
    rintro e3 w3 ⟨rfl, k3⟩
    have B3 : Below w.heap.size w w3 := by have z := B2.size; exact (B2.alloc (by first | exact Nat.le_refl _ | (simp; done) | (simp; omega) | omega) _).trans (k3.mono (by first | exact Nat.le_refl _ | (simp; done) | (simp; omega) | omega))
    have R_m : Rat w3 (w2.heap.size) (x) (y) := (Rat.new' (by simp)).below k3
    clear k3
    obtain ⟨l_m, c_m, d_m⟩ := id R_m
    go_wp2_with fail
    go_ret
    exact ⟨rfl, by have z := B3.size; go_grown⟩
end Go.Proofs.Ytangogkmilpfiaa
