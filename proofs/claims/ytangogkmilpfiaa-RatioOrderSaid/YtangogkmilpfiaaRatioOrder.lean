/- THE WALK of RatioOrder: it returns true, and turns nothing that was there. -/
import Derived.Test.YtangogkmilpfiaaRatioOrderB
set_option linter.unusedSimpArgs false
set_option linter.unusedVariables false
namespace Go.Proofs.Ytangogkmilpfiaa
open Go.RowKit Lu

theorem minus_e {a1 a2 b1 b2 x y e : Int} (oa : Ok a1 a2) (ob : Ok b1 b2) (h : minusP a1 a2 b1 b2 = ((x, y), e)) : (e = 0 ∧ x * (a2 * b2) = (a1 * b2 - b1 * a2) * y ∧ 0 < y) ∨ e = 10 := by
  unfold minusP at h
  rw [twoP_ok oa ob] at h
  have hd : 0 < a2 * b2 := Int.mul_pos oa.pos ob.pos
  have hin := minus_in oa ob
  by_cases he : e = 0
  · subst he
    have h2 := mkP_is_ok hin.1 hin.2 h
    exact Or.inl ⟨rfl, h2.2.1, h2.1.pos⟩
  · right
    by_cases n0 : a1 * b2 - b1 * a2 = 0
    · rw [n0, mkP_none hd] at h
      cases h
      exact absurd rfl he
    · by_cases c1 : 2147483647 < (a1 * b2 - b1 * a2).tdiv (gcdP (a1 * b2 - b1 * a2) (a2 * b2)) ∨ (a1 * b2 - b1 * a2).tdiv (gcdP (a1 * b2 - b1 * a2) (a2 * b2)) < -2147483647 ∨ 2147483647 < (a2 * b2) / gcdP (a1 * b2 - b1 * a2) (a2 * b2)
      · rw [mkP_over hd n0 c1] at h; cases h; rfl
      · rw [mkP_in hd n0 c1] at h; cases h; exact absurd rfl he
/-- Of a ratio that is as much as a difference the number is below 0 just if that is. -/
theorem sign_of {x n d y : Int} (hd : 0 < d) (hy : 0 < y) (h : x * d = n * y) : decide (x < 0) = decide (n < 0) := by
  rw [decide_eq_decide]
  constructor
  · intro hx
    apply Classical.byContradiction
    intro hn
    have h1 : 0 ≤ n * y := Int.mul_nonneg (by omega) (by omega)
    have h2 : x * d < 0 := Int.mul_neg_of_neg_of_pos hx hd
    omega
  · intro hn
    apply Classical.byContradiction
    intro hx
    have h1 : 0 ≤ x * d := Int.mul_nonneg (by omega) (by omega)
    have h2 : n * y < 0 := Int.mul_neg_of_neg_of_pos hn hy
    omega
theorem less_trans {a1 a2 b1 b2 c1 c2 : Int} (oa : Ok a1 a2) (ob : Ok b1 b2) (oc : Ok c1 c2) (h1 : a1 * b2 < b1 * a2) (h2 : b1 * c2 < c1 * b2) : a1 * c2 < c1 * a2 := by
  have pa := oa.pos
  have pb := ob.pos
  have pc := oc.pos
  have e1 : a1 * b2 * c2 < b1 * a2 * c2 := Int.mul_lt_mul_of_pos_right h1 pc
  have e2 : b1 * c2 * a2 < c1 * b2 * a2 := Int.mul_lt_mul_of_pos_right h2 pa
  have e3 : b2 * (a1 * c2) < b2 * (c1 * a2) := by
    simp only [Int.mul_assoc, Int.mul_comm, Int.mul_left_comm] at e1 e2 ⊢
    omega
  exact Int.lt_of_mul_lt_mul_left e3 (Int.le_of_lt pb)
theorem lessP_ok {a1 a2 b1 b2 : Int} (oa : Ok a1 a2) (ob : Ok b1 b2) : lessP a1 a2 b1 b2 = decide (a1 * b2 < b1 * a2) := by
  unfold lessP; simp [oa, ob]

set_option maxHeartbeats 1000000 in
theorem ratioOrder_walk (a1 a2 b1 b2 c1 c2 : Int) (ha1 : In a1) (ha2 : In a2) (hb1 : In b1) (hb2 : In b2) (hc1 : In c1) (hc2 : In c2) (w : World) :
    Calls Try.prog 12 #[.agg #[.int .i64 a1, .int .i64 a2], .agg #[.int .i64 b1, .int .i64 b2], .agg #[.int .i64 c1, .int .i64 c2]] w fun e w' => e = .returned (.bool true) ∧ Below w.heap.size w w' := by
  by_cases oa : Ok a1 a2
  by_cases ob : Ok b1 b2
  by_cases oc : Ok c1 c2
  · have H5 := Lib.hid (show lessP a1 a2 a1 a2 = false by rw [lessP_ok oa oa]; simp)
    obtain ⟨d1, d2, e, hm⟩ : ∃ x y e, minusP a1 a2 b1 b2 = ((x, y), e) := ⟨_, _, _, rfl⟩
    have me := minus_e oa ob hm
    have hpos := Int.mul_pos oa.pos ob.pos
    rcases Int.lt_trichotomy (a1 * b2) (b1 * a2) with hlt | heq | hgt
    · have H1 := Lib.hid (show lessP a1 a2 b1 b2 = true by rw [lessP_ok oa ob]; simp [hlt])
      have H2 := Lib.hid (show lessP b1 b2 a1 a2 = false by rw [lessP_ok ob oa]; simp; omega)
      have ne : (a1 == b1) = false ∨ ((a1 == b1) = true ∧ (a2 == b2) = false) := by
        by_cases q : a1 = b1
        · by_cases r : a2 = b2
          · subst q; subst r; omega
          · exact Or.inr (by simp [q, r])
        · exact Or.inl (by simp [q])
      have s0 : e = 0 → decide (d1 < 0) = true := fun he => by
        rcases me with ⟨_, m1, m2⟩ | m
        · rw [sign_of hpos m2 m1]; simp; omega
        · omega
      by_cases hbc : b1 * c2 < c1 * b2
      · have H3 := Lib.hid (show lessP b1 b2 c1 c2 = true by rw [lessP_ok ob oc]; simp [hbc])
        have H4 := Lib.hid (show lessP a1 a2 c1 c2 = true by rw [lessP_ok oa oc]; simp [less_trans oa ob oc hlt hbc])
        rcases me with ⟨rfl, _, _⟩ | rfl
        · rcases ne with q1 | ⟨q1, q2⟩
          · exact order_ptt1 a1 a2 b1 b2 c1 c2 d1 d2 oa ob oc q1 H1 H2 H5 H3 H4 (s0 rfl) (Lib.hid hm) w
          · exact order_qtt1 a1 a2 b1 b2 c1 c2 d1 d2 oa ob oc q1 q2 H1 H2 H5 H3 H4 (s0 rfl) (Lib.hid hm) w
        · rcases ne with q1 | ⟨q1, q2⟩
          · exact order_ptt0 a1 a2 b1 b2 c1 c2 d1 d2 oa ob oc q1 H1 H2 H5 H3 H4 (Lib.hid hm) w
          · exact order_qtt0 a1 a2 b1 b2 c1 c2 d1 d2 oa ob oc q1 q2 H1 H2 H5 H3 H4 (Lib.hid hm) w
      · have H3 := Lib.hid (show lessP b1 b2 c1 c2 = false by rw [lessP_ok ob oc]; simp; omega)
        rcases me with ⟨rfl, _, _⟩ | rfl
        · rcases ne with q1 | ⟨q1, q2⟩
          · exact order_ptf1 a1 a2 b1 b2 c1 c2 d1 d2 oa ob oc q1 H1 H2 H5 H3 (s0 rfl) (Lib.hid hm) w
          · exact order_qtf1 a1 a2 b1 b2 c1 c2 d1 d2 oa ob oc q1 q2 H1 H2 H5 H3 (s0 rfl) (Lib.hid hm) w
        · rcases ne with q1 | ⟨q1, q2⟩
          · exact order_ptf0 a1 a2 b1 b2 c1 c2 d1 d2 oa ob oc q1 H1 H2 H5 H3 (Lib.hid hm) w
          · exact order_qtf0 a1 a2 b1 b2 c1 c2 d1 d2 oa ob oc q1 q2 H1 H2 H5 H3 (Lib.hid hm) w
    · obtain ⟨rfl, rfl⟩ := ok_eq oa ob heq
      have s0 : e = 0 → decide (d1 < 0) = false := fun he => by
        rcases me with ⟨_, m1, m2⟩ | m
        · rw [sign_of hpos m2 m1]; simp
        · omega
      rcases me with ⟨rfl, _, _⟩ | rfl
      · exact order_same1 a1 a2 c1 c2 d1 d2 oa oc H5 H5 (s0 rfl) (Lib.hid hm) w
      · exact order_same0 a1 a2 c1 c2 d1 d2 oa oc H5 H5 (Lib.hid hm) w
    · have H1 := Lib.hid (show lessP a1 a2 b1 b2 = false by rw [lessP_ok oa ob]; simp; omega)
      have H2 := Lib.hid (show lessP b1 b2 a1 a2 = true by rw [lessP_ok ob oa]; simp [hgt])
      have ne : (a1 == b1) = false ∨ ((a1 == b1) = true ∧ (a2 == b2) = false) := by
        by_cases q : a1 = b1
        · by_cases r : a2 = b2
          · subst q; subst r; omega
          · exact Or.inr (by simp [q, r])
        · exact Or.inl (by simp [q])
      have s0 : e = 0 → decide (d1 < 0) = false := fun he => by
        rcases me with ⟨_, m1, m2⟩ | m
        · rw [sign_of hpos m2 m1]; simp; omega
        · omega
      rcases me with ⟨rfl, _, _⟩ | rfl
      · rcases ne with q1 | ⟨q1, q2⟩
        · exact order_pff1 a1 a2 b1 b2 c1 c2 d1 d2 oa ob oc q1 H1 H2 H5 (s0 rfl) (Lib.hid hm) w
        · exact order_qff1 a1 a2 b1 b2 c1 c2 d1 d2 oa ob oc q1 q2 H1 H2 H5 (s0 rfl) (Lib.hid hm) w
      · rcases ne with q1 | ⟨q1, q2⟩
        · exact order_pff0 a1 a2 b1 b2 c1 c2 d1 d2 oa ob oc q1 H1 H2 H5 (Lib.hid hm) w
        · exact order_qff0 a1 a2 b1 b2 c1 c2 d1 d2 oa ob oc q1 q2 H1 H2 H5 (Lib.hid hm) w
  · -- the third one may not be
    go_enter Try.func12, Try.ntmps12
    go_wp2_with fail
    refine (awake02 _).mono ?_
    rintro e1 w1 ⟨rfl, k1⟩
    have B1 : Below w.heap.size w w1 := ((((Below.refl _ _).alloc (by first | exact Nat.le_refl _ | (simp; done) | (simp; omega) | omega) _).alloc (by first | exact Nat.le_refl _ | (simp; done) | (simp; omega) | omega) _).alloc (by first | exact Nat.le_refl _ | (simp; done) | (simp; omega) | omega) _).trans (k1.mono (by first | exact Nat.le_refl _ | (simp; done) | (simp; omega) | omega))
    have R_a : Rat w1 (w.heap.size) (a1) (a2) := (((Rat.new' (by simp)).alloc _).alloc _).below k1
    have R_b : Rat w1 (w.heap.size + 1) (b1) (b2) := ((Rat.new' (by simp)).alloc _).below k1
    have R_c : Rat w1 (w.heap.size + 1 + 1) (c1) (c2) := (Rat.new' (by simp)).below k1
    clear k1
    obtain ⟨l_a, c_a, d_a⟩ := id R_a
    obtain ⟨l_b, c_b, d_b⟩ := id R_b
    obtain ⟨l_c, c_c, d_c⟩ := id R_c
    go_wp2_with fail
    refine (ratio_Check_yes a1 a2 oa _).mono ?_
    rintro e2 w2 ⟨rfl, k2⟩
    have B2 : Below w.heap.size w w2 := by have z := B1.size; exact B1.trans (k2.mono (by first | exact Nat.le_refl _ | (simp; done) | (simp; omega) | omega))
    replace R_a := R_a.below k2
    replace R_b := R_b.below k2
    replace R_c := R_c.below k2
    clear k2 l_a c_a d_a l_b c_b d_b l_c c_c d_c
    obtain ⟨l_a, c_a, d_a⟩ := id R_a
    obtain ⟨l_b, c_b, d_b⟩ := id R_b
    obtain ⟨l_c, c_c, d_c⟩ := id R_c
    go_wp2_with fail
    refine (ratio_Check_yes b1 b2 ob _).mono ?_
    rintro e3 w3 ⟨rfl, k3⟩
    have B3 : Below w.heap.size w w3 := by have z := B2.size; exact B2.trans (k3.mono (by first | exact Nat.le_refl _ | (simp; done) | (simp; omega) | omega))
    replace R_a := R_a.below k3
    replace R_b := R_b.below k3
    replace R_c := R_c.below k3
    clear k3 l_a c_a d_a l_b c_b d_b l_c c_c d_c
    obtain ⟨l_a, c_a, d_a⟩ := id R_a
    obtain ⟨l_b, c_b, d_b⟩ := id R_b
    obtain ⟨l_c, c_c, d_c⟩ := id R_c
    go_wp2_with fail
    refine (ratio_Check_no c1 c2 hc1 hc2 oc _).mono ?_
    rintro e4 w4 ⟨rfl, k4⟩
    have B4 : Below w.heap.size w w4 := by have z := B3.size; exact B3.trans (k4.mono (by first | exact Nat.le_refl _ | (simp; done) | (simp; omega) | omega))
    replace R_a := R_a.below k4
    replace R_b := R_b.below k4
    replace R_c := R_c.below k4
    clear k4 l_a c_a d_a l_b c_b d_b l_c c_c d_c
    obtain ⟨l_a, c_a, d_a⟩ := id R_a
    obtain ⟨l_b, c_b, d_b⟩ := id R_b
    obtain ⟨l_c, c_c, d_c⟩ := id R_c
    go_wp2_with fail
    go_ret
    exact ⟨rfl, B4⟩
  · -- the second one may not be
    go_enter Try.func12, Try.ntmps12
    go_wp2_with fail
    refine (awake02 _).mono ?_
    rintro e1 w1 ⟨rfl, k1⟩
    have B1 : Below w.heap.size w w1 := ((((Below.refl _ _).alloc (by first | exact Nat.le_refl _ | (simp; done) | (simp; omega) | omega) _).alloc (by first | exact Nat.le_refl _ | (simp; done) | (simp; omega) | omega) _).alloc (by first | exact Nat.le_refl _ | (simp; done) | (simp; omega) | omega) _).trans (k1.mono (by first | exact Nat.le_refl _ | (simp; done) | (simp; omega) | omega))
    have R_a : Rat w1 (w.heap.size) (a1) (a2) := (((Rat.new' (by simp)).alloc _).alloc _).below k1
    have R_b : Rat w1 (w.heap.size + 1) (b1) (b2) := ((Rat.new' (by simp)).alloc _).below k1
    have R_c : Rat w1 (w.heap.size + 1 + 1) (c1) (c2) := (Rat.new' (by simp)).below k1
    clear k1
    obtain ⟨l_a, c_a, d_a⟩ := id R_a
    obtain ⟨l_b, c_b, d_b⟩ := id R_b
    obtain ⟨l_c, c_c, d_c⟩ := id R_c
    go_wp2_with fail
    refine (ratio_Check_yes a1 a2 oa _).mono ?_
    rintro e2 w2 ⟨rfl, k2⟩
    have B2 : Below w.heap.size w w2 := by have z := B1.size; exact B1.trans (k2.mono (by first | exact Nat.le_refl _ | (simp; done) | (simp; omega) | omega))
    replace R_a := R_a.below k2
    replace R_b := R_b.below k2
    replace R_c := R_c.below k2
    clear k2 l_a c_a d_a l_b c_b d_b l_c c_c d_c
    obtain ⟨l_a, c_a, d_a⟩ := id R_a
    obtain ⟨l_b, c_b, d_b⟩ := id R_b
    obtain ⟨l_c, c_c, d_c⟩ := id R_c
    go_wp2_with fail
    refine (ratio_Check_no b1 b2 hb1 hb2 ob _).mono ?_
    rintro e3 w3 ⟨rfl, k3⟩
    have B3 : Below w.heap.size w w3 := by have z := B2.size; exact B2.trans (k3.mono (by first | exact Nat.le_refl _ | (simp; done) | (simp; omega) | omega))
    replace R_a := R_a.below k3
    replace R_b := R_b.below k3
    replace R_c := R_c.below k3
    clear k3 l_a c_a d_a l_b c_b d_b l_c c_c d_c
    obtain ⟨l_a, c_a, d_a⟩ := id R_a
    obtain ⟨l_b, c_b, d_b⟩ := id R_b
    obtain ⟨l_c, c_c, d_c⟩ := id R_c
    go_wp2_with fail
    go_ret
    exact ⟨rfl, B3⟩
  · -- the first one may not be
    go_enter Try.func12, Try.ntmps12
    go_wp2_with fail
    refine (awake02 _).mono ?_
    rintro e1 w1 ⟨rfl, k1⟩
    have B1 : Below w.heap.size w w1 := ((((Below.refl _ _).alloc (by first | exact Nat.le_refl _ | (simp; done) | (simp; omega) | omega) _).alloc (by first | exact Nat.le_refl _ | (simp; done) | (simp; omega) | omega) _).alloc (by first | exact Nat.le_refl _ | (simp; done) | (simp; omega) | omega) _).trans (k1.mono (by first | exact Nat.le_refl _ | (simp; done) | (simp; omega) | omega))
    have R_a : Rat w1 (w.heap.size) (a1) (a2) := (((Rat.new' (by simp)).alloc _).alloc _).below k1
    have R_b : Rat w1 (w.heap.size + 1) (b1) (b2) := ((Rat.new' (by simp)).alloc _).below k1
    have R_c : Rat w1 (w.heap.size + 1 + 1) (c1) (c2) := (Rat.new' (by simp)).below k1
    clear k1
    obtain ⟨l_a, c_a, d_a⟩ := id R_a
    obtain ⟨l_b, c_b, d_b⟩ := id R_b
    obtain ⟨l_c, c_c, d_c⟩ := id R_c
    go_wp2_with fail
    refine (ratio_Check_no a1 a2 ha1 ha2 oa _).mono ?_
    rintro e2 w2 ⟨rfl, k2⟩
    have B2 : Below w.heap.size w w2 := by have z := B1.size; exact B1.trans (k2.mono (by first | exact Nat.le_refl _ | (simp; done) | (simp; omega) | omega))
    replace R_a := R_a.below k2
    replace R_b := R_b.below k2
    replace R_c := R_c.below k2
    clear k2 l_a c_a d_a l_b c_b d_b l_c c_c d_c
    obtain ⟨l_a, c_a, d_a⟩ := id R_a
    obtain ⟨l_b, c_b, d_b⟩ := id R_b
    obtain ⟨l_c, c_c, d_c⟩ := id R_c
    go_wp2_with fail
    go_ret
    exact ⟨rfl, B2⟩
end Go.Proofs.Ytangogkmilpfiaa
