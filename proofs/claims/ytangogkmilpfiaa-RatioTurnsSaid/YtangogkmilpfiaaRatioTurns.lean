/- THE WALK of RatioTurns: it returns true, and turns nothing that was there. -/
import Derived.Test.YtangogkmilpfiaaRatioUp
import Derived.Test.YtangogkmilpfiaaPlainRatio2
namespace Go.Proofs.Ytangogkmilpfiaa
open Go.RowKit Lu

set_option maxHeartbeats 4000000 in
theorem ratioTurns_walk (a1 a2 b1 b2 : Int) (ha1 : In a1) (ha2 : In a2) (hb1 : In b1) (hb2 : In b2) (w : World) :
    Calls Try.prog 11 #[.agg #[.int .i64 a1, .int .i64 a2], .agg #[.int .i64 b1, .int .i64 b2]] w fun e w' => e = .returned (.bool true) ∧ Below w.heap.size w w' := by
  obtain ⟨s1, s2, e, hs⟩ : ∃ x y e, addRP a1 a2 b1 b2 = ((x, y), e) := ⟨_, _, _, rfl⟩
  obtain ⟨m1, m2, g, hm⟩ : ∃ x y e, mulRP a1 a2 b1 b2 = ((x, y), e) := ⟨_, _, _, rfl⟩
  obtain ⟨k1, k2, i, hk⟩ : ∃ x y e, minusP s1 s2 b1 b2 = ((x, y), e) := ⟨_, _, _, rfl⟩
  obtain ⟨o1, o2, j, ho⟩ : ∃ x y e, divRP m1 m2 b1 b2 = ((x, y), e) := ⟨_, _, _, rfl⟩
  obtain ⟨hs1, hs2⟩ := two_range hs
  obtain ⟨hm1, hm2⟩ := two_range hm
  have ways1 : (e = 0 ∧ i = 0 ∧ k1 = a1 ∧ k2 = a2) ∨ ((e == 0) = false ∧ (e != 0) = true) := by
    by_cases he : e = 0
    · subst he
      have := add_back hs
      rw [hk] at this
      cases this
      exact Or.inl ⟨rfl, rfl, rfl, rfl⟩
    · exact Or.inr (by simp [he])
  have ways2 : (decide (b1 < 1) = false ∧ g = 0 ∧ j = 0 ∧ o1 = a1 ∧ o2 = a2) ∨ ((g == 0) = false ∧ (g != 0) = true) ∨ (g = 0 ∧ decide (b1 < 1) = true) := by
    by_cases hg : g = 0
    · subst hg
      by_cases hb : b1 < 1
      · exact Or.inr (Or.inr ⟨rfl, by simp [hb]⟩)
      · have := mul_back hm (by omega)
        rw [ho] at this
        cases this
        exact Or.inl ⟨by simp; omega, rfl, rfl, rfl, rfl⟩
    · exact Or.inr (Or.inl (by simp [hg]))
  have HS := Lib.hid ((sumRP_pair a1 a2 b1 b2).trans hs)
  have HS2 := Lib.hid ((sumRP_pair b1 b2 a1 a2).trans ((addRP_comm a1 a2 b1 b2).trans hs))
  have HM := Lib.hid hm
  have HM2 := Lib.hid ((mulRP_comm a1 a2 b1 b2).trans hm)
  have HB := Lib.hid hk
  have HO := Lib.hid ho
  have W1 := Lib.hid ways1
  have W2 := Lib.hid ways2
  clear hs hm hk ho ways1 ways2
  go_enter Try.func11, Try.ntmps11
  go_wp2_with fail
  refine (awake02 _).mono ?_
  rintro e1 w1 ⟨rfl, k1⟩
  have B1 : Below w.heap.size w w1 := (((Below.refl _ _).alloc (by first | exact Nat.le_refl _ | (simp; done) | (simp; omega) | omega) _).alloc (by first | exact Nat.le_refl _ | (simp; done) | (simp; omega) | omega) _).trans (k1.mono (by first | exact Nat.le_refl _ | (simp; done) | (simp; omega) | omega))
  have R_a : Rat w1 (w.heap.size) (a1) (a2) := ((Rat.new' (by simp)).alloc _).below k1
  have R_b : Rat w1 (w.heap.size + 1) (b1) (b2) := (Rat.new' (by simp)).below k1
  clear k1
  obtain ⟨l_a, c_a, d_a⟩ := id R_a
  obtain ⟨l_b, c_b, d_b⟩ := id R_b
  go_wp2_with fail
  refine (ratio_Sum_is _ _ _ [(a1, a2), (b1, b2)] _ _ _ _ (Ratios_new2 _ _ (by simp) a1 a2 b1 b2 _ ha1 ha2 hb1 hb2) HS.out).mono ?_
  rintro e2 w2 ⟨rfl, k2⟩
  have B2 : Below w.heap.size w w2 := by have z := B1.size; exact (B1.alloc (by first | exact Nat.le_refl _ | (simp; done) | (simp; omega) | omega) _).trans (k2.mono (by first | exact Nat.le_refl _ | (simp; done) | (simp; omega) | omega))
  replace R_a := (R_a.alloc _).below k2
  replace R_b := (R_b.alloc _).below k2
  clear k2 l_a c_a d_a l_b c_b d_b
  obtain ⟨l_a, c_a, d_a⟩ := id R_a
  obtain ⟨l_b, c_b, d_b⟩ := id R_b
  go_wp2_with fail
  refine (ratio_Sum_is _ _ _ [(b1, b2), (a1, a2)] _ _ _ _ (Ratios_new2 _ _ (by simp) b1 b2 a1 a2 _ hb1 hb2 ha1 ha2) HS2.out).mono ?_
  rintro e3 w3 ⟨rfl, k3⟩
  have B3 : Below w.heap.size w w3 := by have z := B2.size; exact ((B2.alloc (by first | exact Nat.le_refl _ | (simp; done) | (simp; omega) | omega) _).alloc (by first | exact Nat.le_refl _ | (simp; done) | (simp; omega) | omega) _).trans (k3.mono (by first | exact Nat.le_refl _ | (simp; done) | (simp; omega) | omega))
  replace R_a := ((R_a.alloc _).alloc _).below k3
  replace R_b := ((R_b.alloc _).alloc _).below k3
  have R_s : Rat w3 (w2.heap.size) (s1) (s2) := ((Rat.new' (by simp)).alloc _).below k3
  clear k3 l_a c_a d_a l_b c_b d_b
  obtain ⟨l_a, c_a, d_a⟩ := id R_a
  obtain ⟨l_b, c_b, d_b⟩ := id R_b
  obtain ⟨l_s, c_s, d_s⟩ := id R_s
  go_wp2_with fail
  refine (ratio_Mul_is a1 a2 b1 b2 _ _ _ _ ha1 ha2 hb1 hb2 HM.out).mono ?_
  rintro e4 w4 ⟨rfl, k4⟩
  have B4 : Below w.heap.size w w4 := by have z := B3.size; exact (B3.alloc (by first | exact Nat.le_refl _ | (simp; done) | (simp; omega) | omega) _).trans (k4.mono (by first | exact Nat.le_refl _ | (simp; done) | (simp; omega) | omega))
  replace R_a := (R_a.alloc _).below k4
  replace R_b := (R_b.alloc _).below k4
  replace R_s := (R_s.alloc _).below k4
  have R_t : Rat w4 (w3.heap.size) (s1) (s2) := (Rat.new' (by simp)).below k4
  clear k4 l_a c_a d_a l_b c_b d_b l_s c_s d_s
  obtain ⟨l_a, c_a, d_a⟩ := id R_a
  obtain ⟨l_b, c_b, d_b⟩ := id R_b
  obtain ⟨l_s, c_s, d_s⟩ := id R_s
  obtain ⟨l_t, c_t, d_t⟩ := id R_t
  go_wp2_with fail
  refine (ratio_Mul_is b1 b2 a1 a2 _ _ _ _ hb1 hb2 ha1 ha2 HM2.out).mono ?_
  rintro e5 w5 ⟨rfl, k5⟩
  have B5 : Below w.heap.size w w5 := by have z := B4.size; exact (B4.alloc (by first | exact Nat.le_refl _ | (simp; done) | (simp; omega) | omega) _).trans (k5.mono (by first | exact Nat.le_refl _ | (simp; done) | (simp; omega) | omega))
  replace R_a := (R_a.alloc _).below k5
  replace R_b := (R_b.alloc _).below k5
  replace R_s := (R_s.alloc _).below k5
  replace R_t := (R_t.alloc _).below k5
  have R_m : Rat w5 (w4.heap.size) (m1) (m2) := (Rat.new' (by simp)).below k5
  clear k5 l_a c_a d_a l_b c_b d_b l_s c_s d_s l_t c_t d_t
  obtain ⟨l_a, c_a, d_a⟩ := id R_a
  obtain ⟨l_b, c_b, d_b⟩ := id R_b
  obtain ⟨l_s, c_s, d_s⟩ := id R_s
  obtain ⟨l_t, c_t, d_t⟩ := id R_t
  obtain ⟨l_m, c_m, d_m⟩ := id R_m
  go_wp2_with fail
  refine (ratio_Minus_is s1 s2 b1 b2 _ _ _ _ hs1 hs2 hb1 hb2 HB.out).mono ?_
  rintro e6 w6 ⟨rfl, k6⟩
  have B6 : Below w.heap.size w w6 := by have z := B5.size; exact (B5.alloc (by first | exact Nat.le_refl _ | (simp; done) | (simp; omega) | omega) _).trans (k6.mono (by first | exact Nat.le_refl _ | (simp; done) | (simp; omega) | omega))
  replace R_a := (R_a.alloc _).below k6
  replace R_b := (R_b.alloc _).below k6
  replace R_s := (R_s.alloc _).below k6
  replace R_t := (R_t.alloc _).below k6
  replace R_m := (R_m.alloc _).below k6
  have R_n : Rat w6 (w5.heap.size) (m1) (m2) := (Rat.new' (by simp)).below k6
  clear k6 l_a c_a d_a l_b c_b d_b l_s c_s d_s l_t c_t d_t l_m c_m d_m
  obtain ⟨l_a, c_a, d_a⟩ := id R_a
  obtain ⟨l_b, c_b, d_b⟩ := id R_b
  obtain ⟨l_s, c_s, d_s⟩ := id R_s
  obtain ⟨l_t, c_t, d_t⟩ := id R_t
  obtain ⟨l_m, c_m, d_m⟩ := id R_m
  obtain ⟨l_n, c_n, d_n⟩ := id R_n
  go_wp2_with fail
  refine (ratio_Div_is m1 m2 b1 b2 _ _ _ _ hm1 hm2 hb1 hb2 HO.out).mono ?_
  rintro e7 w7 ⟨rfl, k7⟩
  have B7 : Below w.heap.size w w7 := by have z := B6.size; exact (B6.alloc (by first | exact Nat.le_refl _ | (simp; done) | (simp; omega) | omega) _).trans (k7.mono (by first | exact Nat.le_refl _ | (simp; done) | (simp; omega) | omega))
  replace R_a := (R_a.alloc _).below k7
  replace R_b := (R_b.alloc _).below k7
  replace R_s := (R_s.alloc _).below k7
  replace R_t := (R_t.alloc _).below k7
  replace R_m := (R_m.alloc _).below k7
  replace R_n := (R_n.alloc _).below k7
  have R_back : Rat w7 (w6.heap.size) (k1) (k2) := (Rat.new' (by simp)).below k7
  clear k7 l_a c_a d_a l_b c_b d_b l_s c_s d_s l_t c_t d_t l_m c_m d_m l_n c_n d_n
  obtain ⟨l_a, c_a, d_a⟩ := id R_a
  obtain ⟨l_b, c_b, d_b⟩ := id R_b
  obtain ⟨l_s, c_s, d_s⟩ := id R_s
  obtain ⟨l_t, c_t, d_t⟩ := id R_t
  obtain ⟨l_m, c_m, d_m⟩ := id R_m
  obtain ⟨l_n, c_n, d_n⟩ := id R_n
  obtain ⟨l_back, c_back, d_back⟩ := id R_back
  rcases W1.out with ⟨rfl, rfl, rfl, rfl⟩ | ⟨u1, u2⟩ <;> rcases W2.out with ⟨v1, rfl, rfl, rfl, rfl⟩ | ⟨v1, v2⟩ | ⟨rfl, v2⟩
  all_goals
    clear W1 W2
    go_wp2_with fail
    go_ret
    exact ⟨rfl, by have z := B7.size; go_grown⟩
end Go.Proofs.Ytangogkmilpfiaa
