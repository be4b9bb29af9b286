/- THE HEAD OF THE STATEMENTS of layer 2: 'awake' returns true. -/
import Derived.Test.YtangogkmilpfiaaRat
set_option linter.unusedSimpArgs false
set_option linter.unusedVariables false
namespace Go.Proofs.Ytangogkmilpfiaa
open Go.RowKit Lu

theorem ratio_Half_is (a1 a2 r : Int) (w : World) (ha1 : In a1) (ha2 : In a2) (h : halfRP a1 a2 = r) :
    Calls Try.prog 41 #[.agg #[.int .i64 a1, .int .i64 a2]] w fun e w' => e = .returned (.int .i64 r) ∧ Below w.heap.size w w' := by
  have := ratio_Half a1 a2 ha1 ha2 w
  rwa [h] at this
theorem ratio_Less_is (a1 a2 b1 b2 : Int) (r : Bool) (w : World) (ha1 : In a1) (ha2 : In a2) (hb1 : In b1) (hb2 : In b2) (h : lessP a1 a2 b1 b2 = r) :
    Calls Try.prog 39 #[.agg #[.int .i64 a1, .int .i64 a2], .agg #[.int .i64 b1, .int .i64 b2]] w fun e w' => e = .returned (.bool r) ∧ Below w.heap.size w w' := by
  have := ratio_Less a1 a2 b1 b2 ha1 ha2 hb1 hb2 w
  rwa [h] at this

set_option maxHeartbeats 2000000 in
/-- awake. -/
theorem awake02 (w : World) :
    Calls Try.prog 28 #[] w fun e w' => e = .returned (.bool true) ∧ Below w.heap.size w w' := by
  go_enter Try.func28, Try.ntmps28
  go_wp2_with fail
  refine (ratio_Sum_is _ _ _ [(1, 6), (1, 3)] 1 2 0 _ (Ratios_new2 _ _ (by simp) 1 6 1 3 _ (by decide) (by decide) (by decide) (by decide)) (by decide)).mono ?_
  rintro e1 w1 ⟨rfl, k1⟩
  have B1 : Below w.heap.size w w1 := (((Below.refl _ _).alloc (by first | exact Nat.le_refl _ | (simp; done) | (simp; omega) | omega) _).alloc (by first | exact Nat.le_refl _ | (simp; done) | (simp; omega) | omega) _).trans (k1.mono (by first | exact Nat.le_refl _ | (simp; done) | (simp; omega) | omega))
  have R_h : Rat w1 (w.heap.size) (1) (2) := ((Rat.new' (by simp)).alloc _).below k1
  clear k1
  obtain ⟨l_h, c_h, d_h⟩ := id R_h
  go_wp2_with fail
  refine (ratio_Mul_is _ _ _ _ (-1) 3 0 _ (by decide) (by decide) (by decide) (by decide) (by decide)).mono ?_
  rintro e2 w2 ⟨rfl, k2⟩
  have B2 : Below w.heap.size w w2 := by have z := B1.size; exact (B1.alloc (by first | exact Nat.le_refl _ | (simp; done) | (simp; omega) | omega) _).trans (k2.mono (by first | exact Nat.le_refl _ | (simp; done) | (simp; omega) | omega))
  replace R_h := (R_h.alloc _).below k2
  have R_s : Rat w2 (w1.heap.size) (1) (2) := (Rat.new' (by simp)).below k2
  clear k2 l_h c_h d_h
  obtain ⟨l_h, c_h, d_h⟩ := id R_h
  obtain ⟨l_s, c_s, d_s⟩ := id R_s
  go_wp2_with fail
  refine (ratio_Div_is _ _ _ _ 2 3 0 _ (by decide) (by decide) (by decide) (by decide) (by decide)).mono ?_
  rintro e3 w3 ⟨rfl, k3⟩
  have B3 : Below w.heap.size w w3 := by have z := B2.size; exact (B2.alloc (by first | exact Nat.le_refl _ | (simp; done) | (simp; omega) | omega) _).trans (k3.mono (by first | exact Nat.le_refl _ | (simp; done) | (simp; omega) | omega))
  replace R_h := (R_h.alloc _).below k3
  replace R_s := (R_s.alloc _).below k3
  have R_m : Rat w3 (w2.heap.size) (-1) (3) := (Rat.new' (by simp)).below k3
  clear k3 l_h c_h d_h l_s c_s d_s
  obtain ⟨l_h, c_h, d_h⟩ := id R_h
  obtain ⟨l_s, c_s, d_s⟩ := id R_s
  obtain ⟨l_m, c_m, d_m⟩ := id R_m
  go_wp2_with fail
  refine (ratio_Div_is _ _ _ _ 0 0 20 _ (by decide) (by decide) (by decide) (by decide) (by decide)).mono ?_
  rintro e4 w4 ⟨rfl, k4⟩
  have B4 : Below w.heap.size w w4 := by have z := B3.size; exact (B3.alloc (by first | exact Nat.le_refl _ | (simp; done) | (simp; omega) | omega) _).trans (k4.mono (by first | exact Nat.le_refl _ | (simp; done) | (simp; omega) | omega))
  replace R_h := (R_h.alloc _).below k4
  replace R_s := (R_s.alloc _).below k4
  replace R_m := (R_m.alloc _).below k4
  have R_d : Rat w4 (w3.heap.size) (2) (3) := (Rat.new' (by simp)).below k4
  clear k4 l_h c_h d_h l_s c_s d_s l_m c_m d_m
  obtain ⟨l_h, c_h, d_h⟩ := id R_h
  obtain ⟨l_s, c_s, d_s⟩ := id R_s
  obtain ⟨l_m, c_m, d_m⟩ := id R_m
  obtain ⟨l_d, c_d, d_d⟩ := id R_d
  go_wp2_with fail
  refine (ratio_Make_is _ _ 0 0 10 _ (by decide) (by decide) (by decide)).mono ?_
  rintro e5 w5 ⟨rfl, k5⟩
  have B5 : Below w.heap.size w w5 := by have z := B4.size; exact (B4.alloc (by first | exact Nat.le_refl _ | (simp; done) | (simp; omega) | omega) _).trans (k5.mono (by first | exact Nat.le_refl _ | (simp; done) | (simp; omega) | omega))
  replace R_h := (R_h.alloc _).below k5
  replace R_s := (R_s.alloc _).below k5
  replace R_m := (R_m.alloc _).below k5
  replace R_d := (R_d.alloc _).below k5
  clear k5 l_h c_h d_h l_s c_s d_s l_m c_m d_m l_d c_d d_d
  obtain ⟨l_h, c_h, d_h⟩ := id R_h
  obtain ⟨l_s, c_s, d_s⟩ := id R_s
  obtain ⟨l_m, c_m, d_m⟩ := id R_m
  obtain ⟨l_d, c_d, d_d⟩ := id R_d
  go_wp2_with fail
  refine (ratio_Minus_is _ _ _ _ 0 1 0 _ (by decide) (by decide) (by decide) (by decide) (by decide)).mono ?_
  rintro e6 w6 ⟨rfl, k6⟩
  have B6 : Below w.heap.size w w6 := by have z := B5.size; exact (B5.alloc (by first | exact Nat.le_refl _ | (simp; done) | (simp; omega) | omega) _).trans (k6.mono (by first | exact Nat.le_refl _ | (simp; done) | (simp; omega) | omega))
  replace R_h := (R_h.alloc _).below k6
  replace R_s := (R_s.alloc _).below k6
  replace R_m := (R_m.alloc _).below k6
  replace R_d := (R_d.alloc _).below k6
  clear k6 l_h c_h d_h l_s c_s d_s l_m c_m d_m l_d c_d d_d
  obtain ⟨l_h, c_h, d_h⟩ := id R_h
  obtain ⟨l_s, c_s, d_s⟩ := id R_s
  obtain ⟨l_m, c_m, d_m⟩ := id R_m
  obtain ⟨l_d, c_d, d_d⟩ := id R_d
  go_wp2_with fail
  refine (ratio_Half_is _ _ (-3) _ (by decide) (by decide) (by decide)).mono ?_
  rintro e7 w7 ⟨rfl, k7⟩
  have B7 : Below w.heap.size w w7 := by have z := B6.size; exact (B6.alloc (by first | exact Nat.le_refl _ | (simp; done) | (simp; omega) | omega) _).trans (k7.mono (by first | exact Nat.le_refl _ | (simp; done) | (simp; omega) | omega))
  replace R_h := (R_h.alloc _).below k7
  replace R_s := (R_s.alloc _).below k7
  replace R_m := (R_m.alloc _).below k7
  replace R_d := (R_d.alloc _).below k7
  have R_n : Rat w7 (w6.heap.size) (0) (1) := (Rat.new' (by simp)).below k7
  clear k7 l_h c_h d_h l_s c_s d_s l_m c_m d_m l_d c_d d_d
  obtain ⟨l_h, c_h, d_h⟩ := id R_h
  obtain ⟨l_s, c_s, d_s⟩ := id R_s
  obtain ⟨l_m, c_m, d_m⟩ := id R_m
  obtain ⟨l_d, c_d, d_d⟩ := id R_d
  obtain ⟨l_n, c_n, d_n⟩ := id R_n
  go_wp2_with fail
  refine (ratio_Less_is _ _ _ _ true _ (by decide) (by decide) (by decide) (by decide) (by decide)).mono ?_
  rintro e8 w8 ⟨rfl, k8⟩
  have B8 : Below w.heap.size w w8 := by have z := B7.size; exact B7.trans (k8.mono (by first | exact Nat.le_refl _ | (simp; done) | (simp; omega) | omega))
  replace R_h := R_h.below k8
  replace R_s := R_s.below k8
  replace R_m := R_m.below k8
  replace R_d := R_d.below k8
  replace R_n := R_n.below k8
  clear k8 l_h c_h d_h l_s c_s d_s l_m c_m d_m l_d c_d d_d l_n c_n d_n
  obtain ⟨l_h, c_h, d_h⟩ := id R_h
  obtain ⟨l_s, c_s, d_s⟩ := id R_s
  obtain ⟨l_m, c_m, d_m⟩ := id R_m
  obtain ⟨l_d, c_d, d_d⟩ := id R_d
  obtain ⟨l_n, c_n, d_n⟩ := id R_n
  go_wp2_with fail
  refine (ratio_Check_no _ _ (by decide) (by decide) (by decide) _).mono ?_
  rintro e9 w9 ⟨rfl, k9⟩
  have B9 : Below w.heap.size w w9 := by have z := B8.size; exact B8.trans (k9.mono (by first | exact Nat.le_refl _ | (simp; done) | (simp; omega) | omega))
  replace R_h := R_h.below k9
  replace R_s := R_s.below k9
  replace R_m := R_m.below k9
  replace R_d := R_d.below k9
  replace R_n := R_n.below k9
  clear k9 l_h c_h d_h l_s c_s d_s l_m c_m d_m l_d c_d d_d l_n c_n d_n
  obtain ⟨l_h, c_h, d_h⟩ := id R_h
  obtain ⟨l_s, c_s, d_s⟩ := id R_s
  obtain ⟨l_m, c_m, d_m⟩ := id R_m
  obtain ⟨l_d, c_d, d_d⟩ := id R_d
  obtain ⟨l_n, c_n, d_n⟩ := id R_n
  go_wp2_with fail
  go_ret
  exact ⟨rfl, B9⟩
end Go.Proofs.Ytangogkmilpfiaa
