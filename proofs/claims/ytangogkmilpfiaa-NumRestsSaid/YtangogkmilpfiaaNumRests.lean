/- THE WALK of NumRests: it returns true, and turns nothing that was there. -/
import Derived.Test.YtangogkmilpfiaaNumUp
namespace Go.Proofs.Ytangogkmilpfiaa
open Go.RowKit Lu

theorem rest_is (a b : Int) (hb : In b) (hb0 : 0 < b) : wrap64 (a - wrap64 (a / b * b)) = a % b := by
  have h1 := Int.mul_ediv_add_emod a b
  have h2 := Int.emod_nonneg a (show b ≠ 0 by omega)
  have h3 := Int.emod_lt_of_pos a hb0
  rw [Int.mul_comm] at h1
  generalize a / b * b = p at *
  generalize a % b = r at *
  rw [wrap64_w64, wrap64_w64]
  unfold w64
  unfold In at hb
  omega

theorem numRests_walk (a b : Int) (ha : In a) (hb : In b) (w : World) :
    Calls Try.prog 5 #[.int .i64 a, .int .i64 b] w fun e w' => e = .returned (.bool true) ∧ Below w.heap.size w w' := by
  by_cases c : b ≤ 0
  · have H1 := Lib.hid (divP_zero (a := a) c)
    have H2 := Lib.hid (halfP_zero (a := a) c)
    have H3 := Lib.hid (upP_zero (a := a) c)
    go_enter Try.func5, Try.ntmps5
    go_wp2_with fail
    refine (awake01 _).mono ?_
    rintro e w1 ⟨rfl, hb1⟩
    go_wp2_with fail
    refine (num_Div_is _ _ _ _ _ ha hb H1.out).mono ?_
    rintro e w' ⟨rfl, n1, rfl⟩
    go_wp2_with fail
    refine (num_Half_is _ _ _ _ _ ha hb H2.out).mono ?_
    rintro e w' ⟨rfl, n2, rfl⟩
    go_wp2_with fail
    refine (num_Up_is _ _ _ _ _ ha hb H3.out).mono ?_
    rintro e w' ⟨rfl, n3, rfl⟩
    go_wp2_with fail
    go_ret
    have hz := hb1.size
    exact ⟨rfl, by repeat (first | exact hb1 | apply below_drewN)⟩
  · have hr := rest_is a b hb (by omega)
    have hq := ediv_range ha (show 0 < b by omega)
    have hr0 := Int.emod_nonneg a (show b ≠ 0 by omega)
    have hr1 := Int.emod_lt_of_pos a (show 0 < b by omega)
    have hs : 0 < a % b → In (a / b + 1) := fun h => (ediv_succ ha (emod_one_left (a := a) (b := b) (by omega) (by omega))).1
    have D := divP_pos (a := a) (show 0 < b by omega)
    unfold In at hq
    have hb' := hb
    unfold In at hb'
    have ways : (0 < a % b ∧ b - a % b ≤ a % b ∧ In (a / b + 1) ∧ halfP a b = (a / b + 1, 0) ∧ upP a b = (a / b + 1, 0)) ∨ (0 < a % b ∧ a % b < b - a % b ∧ In (a / b + 1) ∧ halfP a b = (a / b, 0) ∧ upP a b = (a / b + 1, 0)) ∨ (a % b ≤ 0 ∧ a % b < b - a % b ∧ True ∧ halfP a b = (a / b, 0) ∧ upP a b = (a / b, 0)) := by
      by_cases c1 : 0 < a % b
      · by_cases c2 : b - a % b ≤ a % b
        · exact Or.inl ⟨c1, c2, hs c1, halfP_more (by omega) c2, upP_more (by omega) c1⟩
        · exact Or.inr (Or.inl ⟨c1, by omega, hs c1, halfP_less (by omega) c2, upP_more (by omega) c1⟩)
      · exact Or.inr (Or.inr ⟨by omega, by omega, trivial, halfP_less (by omega) (by omega), upP_less (by omega) c1⟩)
    clear hs
    rcases ways with ⟨c1, c2, hs1, E, U⟩ | ⟨c1, c2, hs1, E, U⟩ | ⟨c1, c2, hs1, E, U⟩
    all_goals
      try unfold In at hs1
      have hrb : b - a % b ≤ b := by omega
      generalize a / b = q at *
      generalize a % b = r at *
      have H1 := Lib.hid D
      have H2 := Lib.hid E
      have H3 := Lib.hid U
      clear D E U
      go_enter Try.func5, Try.ntmps5
      go_wp2_with fail
      refine (awake01 _).mono ?_
      rintro e w1 ⟨rfl, hb1⟩
      go_wp2_with fail
      refine (num_Div_is _ _ _ _ _ ha hb H1.out).mono ?_
      rintro e w' ⟨rfl, n1, rfl⟩
      go_wp2_with fail
      refine (num_Half_is _ _ _ _ _ ha hb H2.out).mono ?_
      rintro e w' ⟨rfl, n2, rfl⟩
      go_wp2_with fail
      refine (num_Up_is _ _ _ _ _ ha hb H3.out).mono ?_
      rintro e w' ⟨rfl, n3, rfl⟩
      go_wp2_with fail
      go_ret
      have hz := hb1.size
      exact ⟨rfl, by repeat (first | exact hb1 | apply below_drewN)⟩
end Go.Proofs.Ytangogkmilpfiaa
