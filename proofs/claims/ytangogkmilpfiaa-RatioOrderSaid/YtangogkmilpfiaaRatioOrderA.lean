/- THE WALK of RatioOrder: it returns true, and turns nothing that was there. -/
import Derived.Test.YtangogkmilpfiaaRatioUp
import Derived.Test.YtangogkmilpfiaaPlainRatio2
import Derived.Deep.RegionHeld3
set_option linter.unusedSimpArgs false
set_option linter.unusedVariables false
namespace Go.Proofs.Ytangogkmilpfiaa
open Go.RowKit Lu

theorem ratio_Less_at (a1 a2 b1 b2 : Int) (r : Bool) (w : World) (ha1 : In a1) (ha2 : In a2) (hb1 : In b1) (hb2 : In b2) (h : Hid (lessP a1 a2 b1 b2 = r)) :
    Calls Try.prog 39 #[.agg #[.int .i64 a1, .int .i64 a2], .agg #[.int .i64 b1, .int .i64 b2]] w fun e w' => e = .returned (.bool r) ∧ (∀ p v, w.cell? p = some v → w'.cell? p = some v) ∧ Below w.heap.size w w' :=
  (ratio_Less_is a1 a2 b1 b2 r w ha1 ha2 hb1 hb2 h.out).mono fun e w' ⟨he, hb⟩ => ⟨he, fun p v h => keepD hb h, hb⟩


set_option maxHeartbeats 2000000 in
theorem order_same1 (a1 a2 c1 c2 d1 d2 : Int) (oa : Ok a1 a2) (oc : Ok c1 c2) (H1 : Hid (lessP a1 a2 a1 a2 = false)) (H5 : Hid (lessP a1 a2 a1 a2 = false)) (s0 : decide (d1 < 0) = false) (HM : Hid (minusP a1 a2 a1 a2 = ((d1, d2), 0))) (w : World) :
    Calls Try.prog 12 #[.agg #[.int .i64 a1, .int .i64 a2], .agg #[.int .i64 a1, .int .i64 a2], .agg #[.int .i64 c1, .int .i64 c2]] w fun e w' => e = .returned (.bool true) ∧ Below w.heap.size w w' := by
  have ha1 := oa.in1
  have ha2 := oa.in2
  have hc1 := oc.in1
  have hc2 := oc.in2
  go_enter Try.func12, Try.ntmps12
  go_wp2_with fail
  refine (awake02 _).mono ?_
  rintro e1 w1 ⟨rfl, k1⟩
  have B1 : Below w.heap.size w w1 := ((((Below.refl _ _).alloc (by first | exact Nat.le_refl _ | (simp; done) | (simp; omega) | omega) _).alloc (by first | exact Nat.le_refl _ | (simp; done) | (simp; omega) | omega) _).alloc (by first | exact Nat.le_refl _ | (simp; done) | (simp; omega) | omega) _).trans (k1.mono (by first | exact Nat.le_refl _ | (simp; done) | (simp; omega) | omega))
  have R_a : Rat w1 (w.heap.size) (a1) (a2) := (((Rat.new' (by simp)).alloc _).alloc _).below k1
  have R_b : Rat w1 (w.heap.size + 1) (a1) (a2) := ((Rat.new' (by simp)).alloc _).below k1
  have R_c : Rat w1 (w.heap.size + 1 + 1) (c1) (c2) := (Rat.new' (by simp)).below k1
  clear k1
  obtain ⟨l_a, c_a, d_a⟩ := id R_a
  obtain ⟨l_b, c_b, d_b⟩ := id R_b
  obtain ⟨l_c, c_c, d_c⟩ := id R_c
  go_wp2_with fail
  refine (ratio_Check_yes a1 a2 oa _).mono ?_
  rintro e2 w2 ⟨rfl, k2⟩
  have B2 : Below w.heap.size w w2 := by have z := B1.size; exact B1.trans (k2.mono (by first | exact Nat.le_refl _ | (simp; done) | (simp; omega) | omega))
  replace R_a := R_a.below k2
  replace R_b := R_b.below k2
  replace R_c := R_c.below k2
  clear k2 l_a c_a d_a l_b c_b d_b l_c c_c d_c
  obtain ⟨l_a, c_a, d_a⟩ := id R_a
  obtain ⟨l_b, c_b, d_b⟩ := id R_b
  obtain ⟨l_c, c_c, d_c⟩ := id R_c
  go_wp2_with fail
  refine (ratio_Check_yes a1 a2 oa _).mono ?_
  rintro e3 w3 ⟨rfl, k3⟩
  have B3 : Below w.heap.size w w3 := by have z := B2.size; exact B2.trans (k3.mono (by first | exact Nat.le_refl _ | (simp; done) | (simp; omega) | omega))
  replace R_a := R_a.below k3
  replace R_b := R_b.below k3
  replace R_c := R_c.below k3
  clear k3 l_a c_a d_a l_b c_b d_b l_c c_c d_c
  obtain ⟨l_a, c_a, d_a⟩ := id R_a
  obtain ⟨l_b, c_b, d_b⟩ := id R_b
  obtain ⟨l_c, c_c, d_c⟩ := id R_c
  go_wp2_with fail
  refine (ratio_Check_yes c1 c2 oc _).mono ?_
  rintro e4 w4 ⟨rfl, k4⟩
  have B4 : Below w.heap.size w w4 := by have z := B3.size; exact B3.trans (k4.mono (by first | exact Nat.le_refl _ | (simp; done) | (simp; omega) | omega))
  replace R_a := R_a.below k4
  replace R_b := R_b.below k4
  replace R_c := R_c.below k4
  clear k4 l_a c_a d_a l_b c_b d_b l_c c_c d_c
  obtain ⟨l_a, c_a, d_a⟩ := id R_a
  obtain ⟨l_b, c_b, d_b⟩ := id R_b
  obtain ⟨l_c, c_c, d_c⟩ := id R_c
  go_wp2_with fail
  clear l_a l_b l_c c_c d_c
  have tok : True := trivial
  go_region_held3 (fun w' => w'.cell? ⟨w.heap.size, 0, none⟩ = some (.int .i64 a1) ∧ w'.cell? ⟨w.heap.size, 1, none⟩ = some (.int .i64 a2) ∧ w'.cell? ⟨w.heap.size + 1, 0, none⟩ = some (.int .i64 a1) ∧ w'.cell? ⟨w.heap.size + 1, 1, none⟩ = some (.int .i64 a2))
    (first | exact ⟨c_a, d_a, c_b, d_b⟩ | exact ⟨hk2 _ _ (hk1 _ _ c_a), hk2 _ _ (hk1 _ _ d_a), hk2 _ _ (hk1 _ _ c_b), hk2 _ _ (hk1 _ _ d_b)⟩ | exact ⟨hk1 _ _ c_a, hk1 _ _ d_a, hk1 _ _ c_b, hk1 _ _ d_b⟩)
    (first
      | (have _t := tok; go_at_call 39; (with_reducible refine (ratio_Less_at a1 a2 a1 a2 false _ ha1 ha2 ha1 ha2 H1).mono ?_); rintro e v1 ⟨rfl, hk1, k1⟩; clear tok _t)
      | (go_at_call 39; (with_reducible refine (ratio_Less_at a1 a2 a1 a2 false _ ha1 ha2 ha1 ha2 H1).mono ?_); rintro e v2 ⟨rfl, hk2, k2⟩))
  have B5 : Below w.heap.size w v2 := by have z := B4.size; exact ((B4.drew).trans (k1.mono z)).trans (k2.mono (Nat.le_trans z k1.size))
  replace R_a := (Rat.below (w := w4.drew) ⟨R_a.lt, R_a.c0, R_a.c1⟩ k1).below k2
  replace R_b := (Rat.below (w := w4.drew) ⟨R_b.lt, R_b.c0, R_b.c1⟩ k1).below k2
  replace R_c := (Rat.below (w := w4.drew) ⟨R_c.lt, R_c.c0, R_c.c1⟩ k1).below k2
  clear hk1 hk2 k1 k2 c_a d_a c_b d_b B4
  try clear ‹_ ∧ _›
  obtain ⟨l_a, c_a, d_a⟩ := id R_a
  obtain ⟨l_b, c_b, d_b⟩ := id R_b
  obtain ⟨l_c, c_c, d_c⟩ := id R_c
  go_wp2_with fail
  refine (ratio_Less_is a1 a2 a1 a2 false _ ha1 ha2 ha1 ha2 H1.out).mono ?_
  rintro e6 w6 ⟨rfl, k6⟩
  have B6 : Below w.heap.size w w6 := B5.trans (k6.mono B5.size)
  replace R_a := R_a.below k6
  replace R_b := R_b.below k6
  replace R_c := R_c.below k6
  clear k6 l_a c_a d_a l_b c_b d_b l_c c_c d_c
  obtain ⟨l_a, c_a, d_a⟩ := id R_a
  obtain ⟨l_b, c_b, d_b⟩ := id R_b
  obtain ⟨l_c, c_c, d_c⟩ := id R_c
  go_wp2_with fail
  refine (ratio_Minus_is a1 a2 a1 a2 d1 d2 0 _ ha1 ha2 ha1 ha2 HM.out).mono ?_
  rintro e7 w7 ⟨rfl, k7⟩
  have B7 : Below w.heap.size w w7 := B6.trans (k7.mono B6.size)
  replace R_a := R_a.below k7
  replace R_b := R_b.below k7
  replace R_c := R_c.below k7
  clear k7 l_a c_a d_a l_b c_b d_b l_c c_c d_c
  obtain ⟨l_a, c_a, d_a⟩ := id R_a
  obtain ⟨l_b, c_b, d_b⟩ := id R_b
  obtain ⟨l_c, c_c, d_c⟩ := id R_c
  go_wp2_with fail
  have Q_a := R_a.alloc (.cells #[.int .i64 d1, .int .i64 d2] 37)
  have Q_b := R_b.alloc (.cells #[.int .i64 d1, .int .i64 d2] 37)
  have Q_d : Rat (w7.alloc (.cells #[.int .i64 d1, .int .i64 d2] 37)) w7.heap.size d1 d2 := Rat.new' rfl
  have B : Below w.heap.size w (w7.alloc (.cells #[.int .i64 d1, .int .i64 d2] 37)) := B7.alloc B7.size _
  generalize hWW : (w7.alloc (.cells #[.int .i64 d1, .int .i64 d2] 37)) = WW at *
  generalize hDD : w7.heap.size = DD at *
  clear hWW hDD R_a R_b R_c l_a c_a d_a l_b c_b d_b l_c c_c d_c
  have tok : True := trivial
  go_region_held3 (fun w' => w'.cell? ⟨w.heap.size, 0, none⟩ = some (.int .i64 a1) ∧ w'.cell? ⟨w.heap.size, 1, none⟩ = some (.int .i64 a2) ∧ w'.cell? ⟨w.heap.size + 1, 0, none⟩ = some (.int .i64 a1) ∧ w'.cell? ⟨w.heap.size + 1, 1, none⟩ = some (.int .i64 a2) ∧ w'.cell? ⟨DD, 0, none⟩ = some (.int .i64 d1))
    (first | exact ⟨Q_a.c0, Q_a.c1, Q_b.c0, Q_b.c1, Q_d.c0⟩ | exact ⟨hk2 _ _ (hk1 _ _ Q_a.c0), hk2 _ _ (hk1 _ _ Q_a.c1), hk2 _ _ (hk1 _ _ Q_b.c0), hk2 _ _ (hk1 _ _ Q_b.c1), hk2 _ _ (hk1 _ _ Q_d.c0)⟩ | exact ⟨hk1 _ _ Q_a.c0, hk1 _ _ Q_a.c1, hk1 _ _ Q_b.c0, hk1 _ _ Q_b.c1, hk1 _ _ Q_d.c0⟩)
    (first
      | (have _t := tok; go_at_call 39; (with_reducible refine (ratio_Less_at a1 a2 a1 a2 false _ ha1 ha2 ha1 ha2 H1).mono ?_); rintro e v3 ⟨rfl, hk1, k1⟩; clear tok _t)
      | (go_at_call 39; (with_reducible refine (ratio_Less_at a1 a2 a1 a2 false _ ha1 ha2 ha1 ha2 H1).mono ?_); rintro e v4 ⟨rfl, hk2, k2⟩))
  go_wp2
  go_ret
  exact ⟨rfl, (B.drew.trans (k1.mono B.size)).trans (k2.mono (Nat.le_trans B.size k1.size))⟩


set_option maxHeartbeats 2000000 in
theorem order_pff1 (a1 a2 b1 b2 c1 c2 d1 d2 : Int) (oa : Ok a1 a2) (ob : Ok b1 b2) (oc : Ok c1 c2) (q1 : (a1 == b1) = false) (H1 : Hid (lessP a1 a2 b1 b2 = false)) (H2 : Hid (lessP b1 b2 a1 a2 = true)) (H5 : Hid (lessP a1 a2 a1 a2 = false)) (s0 : decide (d1 < 0) = false) (HM : Hid (minusP a1 a2 b1 b2 = ((d1, d2), 0))) (w : World) :
    Calls Try.prog 12 #[.agg #[.int .i64 a1, .int .i64 a2], .agg #[.int .i64 b1, .int .i64 b2], .agg #[.int .i64 c1, .int .i64 c2]] w fun e w' => e = .returned (.bool true) ∧ Below w.heap.size w w' := by
  have ha1 := oa.in1
  have ha2 := oa.in2
  have hb1 := ob.in1
  have hb2 := ob.in2
  have hc1 := oc.in1
  have hc2 := oc.in2
  go_enter Try.func12, Try.ntmps12
  go_wp2_with fail
  refine (awake02 _).mono ?_
  rintro e1 w1 ⟨rfl, k1⟩
  have B1 : Below w.heap.size w w1 := ((((Below.refl _ _).alloc (by first | exact Nat.le_refl _ | (simp; done) | (simp; omega) | omega) _).alloc (by first | exact Nat.le_refl _ | (simp; done) | (simp; omega) | omega) _).alloc (by first | exact Nat.le_refl _ | (simp; done) | (simp; omega) | omega) _).trans (k1.mono (by first | exact Nat.le_refl _ | (simp; done) | (simp; omega) | omega))
  have R_a : Rat w1 (w.heap.size) (a1) (a2) := (((Rat.new' (by simp)).alloc _).alloc _).below k1
  have R_b : Rat w1 (w.heap.size + 1) (b1) (b2) := ((Rat.new' (by simp)).alloc _).below k1
  have R_c : Rat w1 (w.heap.size + 1 + 1) (c1) (c2) := (Rat.new' (by simp)).below k1
  clear k1
  obtain ⟨l_a, c_a, d_a⟩ := id R_a
  obtain ⟨l_b, c_b, d_b⟩ := id R_b
  obtain ⟨l_c, c_c, d_c⟩ := id R_c
  go_wp2_with fail
  refine (ratio_Check_yes a1 a2 oa _).mono ?_
  rintro e2 w2 ⟨rfl, k2⟩
  have B2 : Below w.heap.size w w2 := by have z := B1.size; exact B1.trans (k2.mono (by first | exact Nat.le_refl _ | (simp; done) | (simp; omega) | omega))
  replace R_a := R_a.below k2
  replace R_b := R_b.below k2
  replace R_c := R_c.below k2
  clear k2 l_a c_a d_a l_b c_b d_b l_c c_c d_c
  obtain ⟨l_a, c_a, d_a⟩ := id R_a
  obtain ⟨l_b, c_b, d_b⟩ := id R_b
  obtain ⟨l_c, c_c, d_c⟩ := id R_c
  go_wp2_with fail
  refine (ratio_Check_yes b1 b2 ob _).mono ?_
  rintro e3 w3 ⟨rfl, k3⟩
  have B3 : Below w.heap.size w w3 := by have z := B2.size; exact B2.trans (k3.mono (by first | exact Nat.le_refl _ | (simp; done) | (simp; omega) | omega))
  replace R_a := R_a.below k3
  replace R_b := R_b.below k3
  replace R_c := R_c.below k3
  clear k3 l_a c_a d_a l_b c_b d_b l_c c_c d_c
  obtain ⟨l_a, c_a, d_a⟩ := id R_a
  obtain ⟨l_b, c_b, d_b⟩ := id R_b
  obtain ⟨l_c, c_c, d_c⟩ := id R_c
  go_wp2_with fail
  refine (ratio_Check_yes c1 c2 oc _).mono ?_
  rintro e4 w4 ⟨rfl, k4⟩
  have B4 : Below w.heap.size w w4 := by have z := B3.size; exact B3.trans (k4.mono (by first | exact Nat.le_refl _ | (simp; done) | (simp; omega) | omega))
  replace R_a := R_a.below k4
  replace R_b := R_b.below k4
  replace R_c := R_c.below k4
  clear k4 l_a c_a d_a l_b c_b d_b l_c c_c d_c
  obtain ⟨l_a, c_a, d_a⟩ := id R_a
  obtain ⟨l_b, c_b, d_b⟩ := id R_b
  obtain ⟨l_c, c_c, d_c⟩ := id R_c
  go_wp2_with fail
  clear l_a l_b l_c c_c d_c
  go_region_held3 (fun w' => w'.cell? ⟨w.heap.size, 0, none⟩ = some (.int .i64 a1) ∧ w'.cell? ⟨w.heap.size, 1, none⟩ = some (.int .i64 a2) ∧ w'.cell? ⟨w.heap.size + 1, 0, none⟩ = some (.int .i64 b1) ∧ w'.cell? ⟨w.heap.size + 1, 1, none⟩ = some (.int .i64 b2))
    (first | exact ⟨c_a, d_a, c_b, d_b⟩ | exact ⟨hk1 _ _ c_a, hk1 _ _ d_a, hk1 _ _ c_b, hk1 _ _ d_b⟩ | exact ⟨hk2 _ _ (hk1 _ _ c_a), hk2 _ _ (hk1 _ _ d_a), hk2 _ _ (hk1 _ _ c_b), hk2 _ _ (hk1 _ _ d_b)⟩)
    (first
      | (go_at_call 39; (with_reducible refine (ratio_Less_at a1 a2 b1 b2 false _ ha1 ha2 hb1 hb2 H1).mono ?_); rintro e v1 ⟨rfl, hk1, k1⟩)
      | (go_at_call 39; (with_reducible refine (ratio_Less_at b1 b2 a1 a2 true _ hb1 hb2 ha1 ha2 H2).mono ?_); rintro e v2 ⟨rfl, hk2, k2⟩))
  have B5 : Below w.heap.size w v2 := by have z := B4.size; exact ((B4.drew).trans (k1.mono z)).trans (k2.mono (Nat.le_trans z k1.size))
  replace R_a := (Rat.below (w := w4.drew) ⟨R_a.lt, R_a.c0, R_a.c1⟩ k1).below k2
  replace R_b := (Rat.below (w := w4.drew) ⟨R_b.lt, R_b.c0, R_b.c1⟩ k1).below k2
  replace R_c := (Rat.below (w := w4.drew) ⟨R_c.lt, R_c.c0, R_c.c1⟩ k1).below k2
  clear hk1 hk2 k1 k2 c_a d_a c_b d_b B4
  try clear ‹_ ∧ _›
  obtain ⟨l_a, c_a, d_a⟩ := id R_a
  obtain ⟨l_b, c_b, d_b⟩ := id R_b
  obtain ⟨l_c, c_c, d_c⟩ := id R_c
  go_wp2_with fail
  refine (ratio_Less_is a1 a2 b1 b2 false _ ha1 ha2 hb1 hb2 H1.out).mono ?_
  rintro e6 w6 ⟨rfl, k6⟩
  have B6 : Below w.heap.size w w6 := B5.trans (k6.mono B5.size)
  replace R_a := R_a.below k6
  replace R_b := R_b.below k6
  replace R_c := R_c.below k6
  clear k6 l_a c_a d_a l_b c_b d_b l_c c_c d_c
  obtain ⟨l_a, c_a, d_a⟩ := id R_a
  obtain ⟨l_b, c_b, d_b⟩ := id R_b
  obtain ⟨l_c, c_c, d_c⟩ := id R_c
  go_wp2_with fail
  refine (ratio_Minus_is a1 a2 b1 b2 d1 d2 0 _ ha1 ha2 hb1 hb2 HM.out).mono ?_
  rintro e7 w7 ⟨rfl, k7⟩
  have B7 : Below w.heap.size w w7 := B6.trans (k7.mono B6.size)
  replace R_a := R_a.below k7
  replace R_b := R_b.below k7
  replace R_c := R_c.below k7
  clear k7 l_a c_a d_a l_b c_b d_b l_c c_c d_c
  obtain ⟨l_a, c_a, d_a⟩ := id R_a
  obtain ⟨l_b, c_b, d_b⟩ := id R_b
  obtain ⟨l_c, c_c, d_c⟩ := id R_c
  go_wp2_with fail
  have Q_a := R_a.alloc (.cells #[.int .i64 d1, .int .i64 d2] 37)
  have Q_b := R_b.alloc (.cells #[.int .i64 d1, .int .i64 d2] 37)
  have Q_d : Rat (w7.alloc (.cells #[.int .i64 d1, .int .i64 d2] 37)) w7.heap.size d1 d2 := Rat.new' rfl
  have B : Below w.heap.size w (w7.alloc (.cells #[.int .i64 d1, .int .i64 d2] 37)) := B7.alloc B7.size _
  generalize hWW : (w7.alloc (.cells #[.int .i64 d1, .int .i64 d2] 37)) = WW at *
  generalize hDD : w7.heap.size = DD at *
  clear hWW hDD R_a R_b R_c l_a c_a d_a l_b c_b d_b l_c c_c d_c
  go_region_held3 (fun w' => w'.cell? ⟨w.heap.size, 0, none⟩ = some (.int .i64 a1) ∧ w'.cell? ⟨w.heap.size, 1, none⟩ = some (.int .i64 a2) ∧ w'.cell? ⟨w.heap.size + 1, 0, none⟩ = some (.int .i64 b1) ∧ w'.cell? ⟨w.heap.size + 1, 1, none⟩ = some (.int .i64 b2) ∧ w'.cell? ⟨DD, 0, none⟩ = some (.int .i64 d1))
    (first | exact ⟨Q_a.c0, Q_a.c1, Q_b.c0, Q_b.c1, Q_d.c0⟩ | exact ⟨hk1 _ _ Q_a.c0, hk1 _ _ Q_a.c1, hk1 _ _ Q_b.c0, hk1 _ _ Q_b.c1, hk1 _ _ Q_d.c0⟩ | exact ⟨hk2 _ _ (hk1 _ _ Q_a.c0), hk2 _ _ (hk1 _ _ Q_a.c1), hk2 _ _ (hk1 _ _ Q_b.c0), hk2 _ _ (hk1 _ _ Q_b.c1), hk2 _ _ (hk1 _ _ Q_d.c0)⟩)
    (first
      | (go_at_call 39; (with_reducible refine (ratio_Less_at a1 a2 a1 a2 false _ ha1 ha2 ha1 ha2 H5).mono ?_); rintro e v1 ⟨rfl, hk1, k1⟩)
      | (go_at_call 39; (with_reducible refine (ratio_Less_at a1 a2 b1 b2 false _ ha1 ha2 hb1 hb2 H1).mono ?_); rintro e v2 ⟨rfl, hk2, k2⟩))
  go_wp2
  go_ret
  exact ⟨rfl, (B.drew.trans (k1.mono B.size)).trans (k2.mono (Nat.le_trans B.size k1.size))⟩


set_option maxHeartbeats 2000000 in
theorem order_ptf1 (a1 a2 b1 b2 c1 c2 d1 d2 : Int) (oa : Ok a1 a2) (ob : Ok b1 b2) (oc : Ok c1 c2) (q1 : (a1 == b1) = false) (H1 : Hid (lessP a1 a2 b1 b2 = true)) (H2 : Hid (lessP b1 b2 a1 a2 = false)) (H5 : Hid (lessP a1 a2 a1 a2 = false)) (H3 : Hid (lessP b1 b2 c1 c2 = false)) (s0 : decide (d1 < 0) = true) (HM : Hid (minusP a1 a2 b1 b2 = ((d1, d2), 0))) (w : World) :
    Calls Try.prog 12 #[.agg #[.int .i64 a1, .int .i64 a2], .agg #[.int .i64 b1, .int .i64 b2], .agg #[.int .i64 c1, .int .i64 c2]] w fun e w' => e = .returned (.bool true) ∧ Below w.heap.size w w' := by
  have ha1 := oa.in1
  have ha2 := oa.in2
  have hb1 := ob.in1
  have hb2 := ob.in2
  have hc1 := oc.in1
  have hc2 := oc.in2
  go_enter Try.func12, Try.ntmps12
  go_wp2_with fail
  refine (awake02 _).mono ?_
  rintro e1 w1 ⟨rfl, k1⟩
  have B1 : Below w.heap.size w w1 := ((((Below.refl _ _).alloc (by first | exact Nat.le_refl _ | (simp; done) | (simp; omega) | omega) _).alloc (by first | exact Nat.le_refl _ | (simp; done) | (simp; omega) | omega) _).alloc (by first | exact Nat.le_refl _ | (simp; done) | (simp; omega) | omega) _).trans (k1.mono (by first | exact Nat.le_refl _ | (simp; done) | (simp; omega) | omega))
  have R_a : Rat w1 (w.heap.size) (a1) (a2) := (((Rat.new' (by simp)).alloc _).alloc _).below k1
  have R_b : Rat w1 (w.heap.size + 1) (b1) (b2) := ((Rat.new' (by simp)).alloc _).below k1
  have R_c : Rat w1 (w.heap.size + 1 + 1) (c1) (c2) := (Rat.new' (by simp)).below k1
  clear k1
  obtain ⟨l_a, c_a, d_a⟩ := id R_a
  obtain ⟨l_b, c_b, d_b⟩ := id R_b
  obtain ⟨l_c, c_c, d_c⟩ := id R_c
  go_wp2_with fail
  refine (ratio_Check_yes a1 a2 oa _).mono ?_
  rintro e2 w2 ⟨rfl, k2⟩
  have B2 : Below w.heap.size w w2 := by have z := B1.size; exact B1.trans (k2.mono (by first | exact Nat.le_refl _ | (simp; done) | (simp; omega) | omega))
  replace R_a := R_a.below k2
  replace R_b := R_b.below k2
  replace R_c := R_c.below k2
  clear k2 l_a c_a d_a l_b c_b d_b l_c c_c d_c
  obtain ⟨l_a, c_a, d_a⟩ := id R_a
  obtain ⟨l_b, c_b, d_b⟩ := id R_b
  obtain ⟨l_c, c_c, d_c⟩ := id R_c
  go_wp2_with fail
  refine (ratio_Check_yes b1 b2 ob _).mono ?_
  rintro e3 w3 ⟨rfl, k3⟩
  have B3 : Below w.heap.size w w3 := by have z := B2.size; exact B2.trans (k3.mono (by first | exact Nat.le_refl _ | (simp; done) | (simp; omega) | omega))
  replace R_a := R_a.below k3
  replace R_b := R_b.below k3
  replace R_c := R_c.below k3
  clear k3 l_a c_a d_a l_b c_b d_b l_c c_c d_c
  obtain ⟨l_a, c_a, d_a⟩ := id R_a
  obtain ⟨l_b, c_b, d_b⟩ := id R_b
  obtain ⟨l_c, c_c, d_c⟩ := id R_c
  go_wp2_with fail
  refine (ratio_Check_yes c1 c2 oc _).mono ?_
  rintro e4 w4 ⟨rfl, k4⟩
  have B4 : Below w.heap.size w w4 := by have z := B3.size; exact B3.trans (k4.mono (by first | exact Nat.le_refl _ | (simp; done) | (simp; omega) | omega))
  replace R_a := R_a.below k4
  replace R_b := R_b.below k4
  replace R_c := R_c.below k4
  clear k4 l_a c_a d_a l_b c_b d_b l_c c_c d_c
  obtain ⟨l_a, c_a, d_a⟩ := id R_a
  obtain ⟨l_b, c_b, d_b⟩ := id R_b
  obtain ⟨l_c, c_c, d_c⟩ := id R_c
  go_wp2_with fail
  clear l_a l_b l_c c_c d_c
  go_region_held3 (fun w' => w'.cell? ⟨w.heap.size, 0, none⟩ = some (.int .i64 a1) ∧ w'.cell? ⟨w.heap.size, 1, none⟩ = some (.int .i64 a2) ∧ w'.cell? ⟨w.heap.size + 1, 0, none⟩ = some (.int .i64 b1) ∧ w'.cell? ⟨w.heap.size + 1, 1, none⟩ = some (.int .i64 b2))
    (first | exact ⟨c_a, d_a, c_b, d_b⟩ | exact ⟨hk1 _ _ c_a, hk1 _ _ d_a, hk1 _ _ c_b, hk1 _ _ d_b⟩ | exact ⟨hk2 _ _ (hk1 _ _ c_a), hk2 _ _ (hk1 _ _ d_a), hk2 _ _ (hk1 _ _ c_b), hk2 _ _ (hk1 _ _ d_b)⟩)
    (first
      | (go_at_call 39; (with_reducible refine (ratio_Less_at a1 a2 b1 b2 true _ ha1 ha2 hb1 hb2 H1).mono ?_); rintro e v1 ⟨rfl, hk1, k1⟩)
      | (go_at_call 39; (with_reducible refine (ratio_Less_at b1 b2 a1 a2 false _ hb1 hb2 ha1 ha2 H2).mono ?_); rintro e v2 ⟨rfl, hk2, k2⟩))
  have B5 : Below w.heap.size w v2 := by have z := B4.size; exact ((B4.drew).trans (k1.mono z)).trans (k2.mono (Nat.le_trans z k1.size))
  replace R_a := (Rat.below (w := w4.drew) ⟨R_a.lt, R_a.c0, R_a.c1⟩ k1).below k2
  replace R_b := (Rat.below (w := w4.drew) ⟨R_b.lt, R_b.c0, R_b.c1⟩ k1).below k2
  replace R_c := (Rat.below (w := w4.drew) ⟨R_c.lt, R_c.c0, R_c.c1⟩ k1).below k2
  clear hk1 hk2 k1 k2 c_a d_a c_b d_b B4
  try clear ‹_ ∧ _›
  obtain ⟨l_a, c_a, d_a⟩ := id R_a
  obtain ⟨l_b, c_b, d_b⟩ := id R_b
  obtain ⟨l_c, c_c, d_c⟩ := id R_c
  go_wp2_with fail
  refine (ratio_Less_is a1 a2 b1 b2 true _ ha1 ha2 hb1 hb2 H1.out).mono ?_
  rintro e6 w6 ⟨rfl, k6⟩
  have B6 : Below w.heap.size w w6 := B5.trans (k6.mono B5.size)
  replace R_a := R_a.below k6
  replace R_b := R_b.below k6
  replace R_c := R_c.below k6
  clear k6 l_a c_a d_a l_b c_b d_b l_c c_c d_c
  obtain ⟨l_a, c_a, d_a⟩ := id R_a
  obtain ⟨l_b, c_b, d_b⟩ := id R_b
  obtain ⟨l_c, c_c, d_c⟩ := id R_c
  go_wp2_with fail
  refine (ratio_Less_is b1 b2 c1 c2 false _ hb1 hb2 hc1 hc2 H3.out).mono ?_
  rintro e7 w7 ⟨rfl, k7⟩
  have B7 : Below w.heap.size w w7 := B6.trans (k7.mono B6.size)
  replace R_a := R_a.below k7
  replace R_b := R_b.below k7
  replace R_c := R_c.below k7
  clear k7 l_a c_a d_a l_b c_b d_b l_c c_c d_c
  obtain ⟨l_a, c_a, d_a⟩ := id R_a
  obtain ⟨l_b, c_b, d_b⟩ := id R_b
  obtain ⟨l_c, c_c, d_c⟩ := id R_c
  go_wp2_with fail
  refine (ratio_Minus_is a1 a2 b1 b2 d1 d2 0 _ ha1 ha2 hb1 hb2 HM.out).mono ?_
  rintro e8 w8 ⟨rfl, k8⟩
  have B8 : Below w.heap.size w w8 := B7.trans (k8.mono B7.size)
  replace R_a := R_a.below k8
  replace R_b := R_b.below k8
  replace R_c := R_c.below k8
  clear k8 l_a c_a d_a l_b c_b d_b l_c c_c d_c
  obtain ⟨l_a, c_a, d_a⟩ := id R_a
  obtain ⟨l_b, c_b, d_b⟩ := id R_b
  obtain ⟨l_c, c_c, d_c⟩ := id R_c
  go_wp2_with fail
  have Q_a := R_a.alloc (.cells #[.int .i64 d1, .int .i64 d2] 37)
  have Q_b := R_b.alloc (.cells #[.int .i64 d1, .int .i64 d2] 37)
  have Q_d : Rat (w8.alloc (.cells #[.int .i64 d1, .int .i64 d2] 37)) w8.heap.size d1 d2 := Rat.new' rfl
  have B : Below w.heap.size w (w8.alloc (.cells #[.int .i64 d1, .int .i64 d2] 37)) := B8.alloc B8.size _
  generalize hWW : (w8.alloc (.cells #[.int .i64 d1, .int .i64 d2] 37)) = WW at *
  generalize hDD : w8.heap.size = DD at *
  clear hWW hDD R_a R_b R_c l_a c_a d_a l_b c_b d_b l_c c_c d_c
  go_region_held3 (fun w' => w'.cell? ⟨w.heap.size, 0, none⟩ = some (.int .i64 a1) ∧ w'.cell? ⟨w.heap.size, 1, none⟩ = some (.int .i64 a2) ∧ w'.cell? ⟨w.heap.size + 1, 0, none⟩ = some (.int .i64 b1) ∧ w'.cell? ⟨w.heap.size + 1, 1, none⟩ = some (.int .i64 b2) ∧ w'.cell? ⟨DD, 0, none⟩ = some (.int .i64 d1))
    (first | exact ⟨Q_a.c0, Q_a.c1, Q_b.c0, Q_b.c1, Q_d.c0⟩ | exact ⟨hk1 _ _ Q_a.c0, hk1 _ _ Q_a.c1, hk1 _ _ Q_b.c0, hk1 _ _ Q_b.c1, hk1 _ _ Q_d.c0⟩ | exact ⟨hk2 _ _ (hk1 _ _ Q_a.c0), hk2 _ _ (hk1 _ _ Q_a.c1), hk2 _ _ (hk1 _ _ Q_b.c0), hk2 _ _ (hk1 _ _ Q_b.c1), hk2 _ _ (hk1 _ _ Q_d.c0)⟩)
    (first
      | (go_at_call 39; (with_reducible refine (ratio_Less_at a1 a2 a1 a2 false _ ha1 ha2 ha1 ha2 H5).mono ?_); rintro e v1 ⟨rfl, hk1, k1⟩)
      | (go_at_call 39; (with_reducible refine (ratio_Less_at a1 a2 b1 b2 true _ ha1 ha2 hb1 hb2 H1).mono ?_); rintro e v2 ⟨rfl, hk2, k2⟩))
  go_wp2
  go_ret
  exact ⟨rfl, (B.drew.trans (k1.mono B.size)).trans (k2.mono (Nat.le_trans B.size k1.size))⟩


set_option maxHeartbeats 2000000 in
theorem order_ptt1 (a1 a2 b1 b2 c1 c2 d1 d2 : Int) (oa : Ok a1 a2) (ob : Ok b1 b2) (oc : Ok c1 c2) (q1 : (a1 == b1) = false) (H1 : Hid (lessP a1 a2 b1 b2 = true)) (H2 : Hid (lessP b1 b2 a1 a2 = false)) (H5 : Hid (lessP a1 a2 a1 a2 = false)) (H3 : Hid (lessP b1 b2 c1 c2 = true)) (H4 : Hid (lessP a1 a2 c1 c2 = true)) (s0 : decide (d1 < 0) = true) (HM : Hid (minusP a1 a2 b1 b2 = ((d1, d2), 0))) (w : World) :
    Calls Try.prog 12 #[.agg #[.int .i64 a1, .int .i64 a2], .agg #[.int .i64 b1, .int .i64 b2], .agg #[.int .i64 c1, .int .i64 c2]] w fun e w' => e = .returned (.bool true) ∧ Below w.heap.size w w' := by
  have ha1 := oa.in1
  have ha2 := oa.in2
  have hb1 := ob.in1
  have hb2 := ob.in2
  have hc1 := oc.in1
  have hc2 := oc.in2
  go_enter Try.func12, Try.ntmps12
  go_wp2_with fail
  refine (awake02 _).mono ?_
  rintro e1 w1 ⟨rfl, k1⟩
  have B1 : Below w.heap.size w w1 := ((((Below.refl _ _).alloc (by first | exact Nat.le_refl _ | (simp; done) | (simp; omega) | omega) _).alloc (by first | exact Nat.le_refl _ | (simp; done) | (simp; omega) | omega) _).alloc (by first | exact Nat.le_refl _ | (simp; done) | (simp; omega) | omega) _).trans (k1.mono (by first | exact Nat.le_refl _ | (simp; done) | (simp; omega) | omega))
  have R_a : Rat w1 (w.heap.size) (a1) (a2) := (((Rat.new' (by simp)).alloc _).alloc _).below k1
  have R_b : Rat w1 (w.heap.size + 1) (b1) (b2) := ((Rat.new' (by simp)).alloc _).below k1
  have R_c : Rat w1 (w.heap.size + 1 + 1) (c1) (c2) := (Rat.new' (by simp)).below k1
  clear k1
  obtain ⟨l_a, c_a, d_a⟩ := id R_a
  obtain ⟨l_b, c_b, d_b⟩ := id R_b
  obtain ⟨l_c, c_c, d_c⟩ := id R_c
  go_wp2_with fail
  refine (ratio_Check_yes a1 a2 oa _).mono ?_
  rintro e2 w2 ⟨rfl, k2⟩
  have B2 : Below w.heap.size w w2 := by have z := B1.size; exact B1.trans (k2.mono (by first | exact Nat.le_refl _ | (simp; done) | (simp; omega) | omega))
  replace R_a := R_a.below k2
  replace R_b := R_b.below k2
  replace R_c := R_c.below k2
  clear k2 l_a c_a d_a l_b c_b d_b l_c c_c d_c
  obtain ⟨l_a, c_a, d_a⟩ := id R_a
  obtain ⟨l_b, c_b, d_b⟩ := id R_b
  obtain ⟨l_c, c_c, d_c⟩ := id R_c
  go_wp2_with fail
  refine (ratio_Check_yes b1 b2 ob _).mono ?_
  rintro e3 w3 ⟨rfl, k3⟩
  have B3 : Below w.heap.size w w3 := by have z := B2.size; exact B2.trans (k3.mono (by first | exact Nat.le_refl _ | (simp; done) | (simp; omega) | omega))
  replace R_a := R_a.below k3
  replace R_b := R_b.below k3
  replace R_c := R_c.below k3
  clear k3 l_a c_a d_a l_b c_b d_b l_c c_c d_c
  obtain ⟨l_a, c_a, d_a⟩ := id R_a
  obtain ⟨l_b, c_b, d_b⟩ := id R_b
  obtain ⟨l_c, c_c, d_c⟩ := id R_c
  go_wp2_with fail
  refine (ratio_Check_yes c1 c2 oc _).mono ?_
  rintro e4 w4 ⟨rfl, k4⟩
  have B4 : Below w.heap.size w w4 := by have z := B3.size; exact B3.trans (k4.mono (by first | exact Nat.le_refl _ | (simp; done) | (simp; omega) | omega))
  replace R_a := R_a.below k4
  replace R_b := R_b.below k4
  replace R_c := R_c.below k4
  clear k4 l_a c_a d_a l_b c_b d_b l_c c_c d_c
  obtain ⟨l_a, c_a, d_a⟩ := id R_a
  obtain ⟨l_b, c_b, d_b⟩ := id R_b
  obtain ⟨l_c, c_c, d_c⟩ := id R_c
  go_wp2_with fail
  clear l_a l_b l_c c_c d_c
  go_region_held3 (fun w' => w'.cell? ⟨w.heap.size, 0, none⟩ = some (.int .i64 a1) ∧ w'.cell? ⟨w.heap.size, 1, none⟩ = some (.int .i64 a2) ∧ w'.cell? ⟨w.heap.size + 1, 0, none⟩ = some (.int .i64 b1) ∧ w'.cell? ⟨w.heap.size + 1, 1, none⟩ = some (.int .i64 b2))
    (first | exact ⟨c_a, d_a, c_b, d_b⟩ | exact ⟨hk1 _ _ c_a, hk1 _ _ d_a, hk1 _ _ c_b, hk1 _ _ d_b⟩ | exact ⟨hk2 _ _ (hk1 _ _ c_a), hk2 _ _ (hk1 _ _ d_a), hk2 _ _ (hk1 _ _ c_b), hk2 _ _ (hk1 _ _ d_b)⟩)
    (first
      | (go_at_call 39; (with_reducible refine (ratio_Less_at a1 a2 b1 b2 true _ ha1 ha2 hb1 hb2 H1).mono ?_); rintro e v1 ⟨rfl, hk1, k1⟩)
      | (go_at_call 39; (with_reducible refine (ratio_Less_at b1 b2 a1 a2 false _ hb1 hb2 ha1 ha2 H2).mono ?_); rintro e v2 ⟨rfl, hk2, k2⟩))
  have B5 : Below w.heap.size w v2 := by have z := B4.size; exact ((B4.drew).trans (k1.mono z)).trans (k2.mono (Nat.le_trans z k1.size))
  replace R_a := (Rat.below (w := w4.drew) ⟨R_a.lt, R_a.c0, R_a.c1⟩ k1).below k2
  replace R_b := (Rat.below (w := w4.drew) ⟨R_b.lt, R_b.c0, R_b.c1⟩ k1).below k2
  replace R_c := (Rat.below (w := w4.drew) ⟨R_c.lt, R_c.c0, R_c.c1⟩ k1).below k2
  clear hk1 hk2 k1 k2 c_a d_a c_b d_b B4
  try clear ‹_ ∧ _›
  obtain ⟨l_a, c_a, d_a⟩ := id R_a
  obtain ⟨l_b, c_b, d_b⟩ := id R_b
  obtain ⟨l_c, c_c, d_c⟩ := id R_c
  go_wp2_with fail
  refine (ratio_Less_is a1 a2 b1 b2 true _ ha1 ha2 hb1 hb2 H1.out).mono ?_
  rintro e6 w6 ⟨rfl, k6⟩
  have B6 : Below w.heap.size w w6 := B5.trans (k6.mono B5.size)
  replace R_a := R_a.below k6
  replace R_b := R_b.below k6
  replace R_c := R_c.below k6
  clear k6 l_a c_a d_a l_b c_b d_b l_c c_c d_c
  obtain ⟨l_a, c_a, d_a⟩ := id R_a
  obtain ⟨l_b, c_b, d_b⟩ := id R_b
  obtain ⟨l_c, c_c, d_c⟩ := id R_c
  go_wp2_with fail
  refine (ratio_Less_is b1 b2 c1 c2 true _ hb1 hb2 hc1 hc2 H3.out).mono ?_
  rintro e7 w7 ⟨rfl, k7⟩
  have B7 : Below w.heap.size w w7 := B6.trans (k7.mono B6.size)
  replace R_a := R_a.below k7
  replace R_b := R_b.below k7
  replace R_c := R_c.below k7
  clear k7 l_a c_a d_a l_b c_b d_b l_c c_c d_c
  obtain ⟨l_a, c_a, d_a⟩ := id R_a
  obtain ⟨l_b, c_b, d_b⟩ := id R_b
  obtain ⟨l_c, c_c, d_c⟩ := id R_c
  go_wp2_with fail
  refine (ratio_Less_is a1 a2 c1 c2 true _ ha1 ha2 hc1 hc2 H4.out).mono ?_
  rintro e8 w8 ⟨rfl, k8⟩
  have B8 : Below w.heap.size w w8 := B7.trans (k8.mono B7.size)
  replace R_a := R_a.below k8
  replace R_b := R_b.below k8
  replace R_c := R_c.below k8
  clear k8 l_a c_a d_a l_b c_b d_b l_c c_c d_c
  obtain ⟨l_a, c_a, d_a⟩ := id R_a
  obtain ⟨l_b, c_b, d_b⟩ := id R_b
  obtain ⟨l_c, c_c, d_c⟩ := id R_c
  go_wp2_with fail
  refine (ratio_Minus_is a1 a2 b1 b2 d1 d2 0 _ ha1 ha2 hb1 hb2 HM.out).mono ?_
  rintro e9 w9 ⟨rfl, k9⟩
  have B9 : Below w.heap.size w w9 := B8.trans (k9.mono B8.size)
  replace R_a := R_a.below k9
  replace R_b := R_b.below k9
  replace R_c := R_c.below k9
  clear k9 l_a c_a d_a l_b c_b d_b l_c c_c d_c
  obtain ⟨l_a, c_a, d_a⟩ := id R_a
  obtain ⟨l_b, c_b, d_b⟩ := id R_b
  obtain ⟨l_c, c_c, d_c⟩ := id R_c
  go_wp2_with fail
  have Q_a := R_a.alloc (.cells #[.int .i64 d1, .int .i64 d2] 37)
  have Q_b := R_b.alloc (.cells #[.int .i64 d1, .int .i64 d2] 37)
  have Q_d : Rat (w9.alloc (.cells #[.int .i64 d1, .int .i64 d2] 37)) w9.heap.size d1 d2 := Rat.new' rfl
  have B : Below w.heap.size w (w9.alloc (.cells #[.int .i64 d1, .int .i64 d2] 37)) := B9.alloc B9.size _
  generalize hWW : (w9.alloc (.cells #[.int .i64 d1, .int .i64 d2] 37)) = WW at *
  generalize hDD : w9.heap.size = DD at *
  clear hWW hDD R_a R_b R_c l_a c_a d_a l_b c_b d_b l_c c_c d_c
  go_region_held3 (fun w' => w'.cell? ⟨w.heap.size, 0, none⟩ = some (.int .i64 a1) ∧ w'.cell? ⟨w.heap.size, 1, none⟩ = some (.int .i64 a2) ∧ w'.cell? ⟨w.heap.size + 1, 0, none⟩ = some (.int .i64 b1) ∧ w'.cell? ⟨w.heap.size + 1, 1, none⟩ = some (.int .i64 b2) ∧ w'.cell? ⟨DD, 0, none⟩ = some (.int .i64 d1))
    (first | exact ⟨Q_a.c0, Q_a.c1, Q_b.c0, Q_b.c1, Q_d.c0⟩ | exact ⟨hk1 _ _ Q_a.c0, hk1 _ _ Q_a.c1, hk1 _ _ Q_b.c0, hk1 _ _ Q_b.c1, hk1 _ _ Q_d.c0⟩ | exact ⟨hk2 _ _ (hk1 _ _ Q_a.c0), hk2 _ _ (hk1 _ _ Q_a.c1), hk2 _ _ (hk1 _ _ Q_b.c0), hk2 _ _ (hk1 _ _ Q_b.c1), hk2 _ _ (hk1 _ _ Q_d.c0)⟩)
    (first
      | (go_at_call 39; (with_reducible refine (ratio_Less_at a1 a2 a1 a2 false _ ha1 ha2 ha1 ha2 H5).mono ?_); rintro e v1 ⟨rfl, hk1, k1⟩)
      | (go_at_call 39; (with_reducible refine (ratio_Less_at a1 a2 b1 b2 true _ ha1 ha2 hb1 hb2 H1).mono ?_); rintro e v2 ⟨rfl, hk2, k2⟩))
  go_wp2
  go_ret
  exact ⟨rfl, (B.drew.trans (k1.mono B.size)).trans (k2.mono (Nat.le_trans B.size k1.size))⟩


set_option maxHeartbeats 2000000 in
theorem order_qff1 (a1 a2 b1 b2 c1 c2 d1 d2 : Int) (oa : Ok a1 a2) (ob : Ok b1 b2) (oc : Ok c1 c2) (q1 : (a1 == b1) = true) (q2 : (a2 == b2) = false) (H1 : Hid (lessP a1 a2 b1 b2 = false)) (H2 : Hid (lessP b1 b2 a1 a2 = true)) (H5 : Hid (lessP a1 a2 a1 a2 = false)) (s0 : decide (d1 < 0) = false) (HM : Hid (minusP a1 a2 b1 b2 = ((d1, d2), 0))) (w : World) :
    Calls Try.prog 12 #[.agg #[.int .i64 a1, .int .i64 a2], .agg #[.int .i64 b1, .int .i64 b2], .agg #[.int .i64 c1, .int .i64 c2]] w fun e w' => e = .returned (.bool true) ∧ Below w.heap.size w w' := by
  have ha1 := oa.in1
  have ha2 := oa.in2
  have hb1 := ob.in1
  have hb2 := ob.in2
  have hc1 := oc.in1
  have hc2 := oc.in2
  go_enter Try.func12, Try.ntmps12
  go_wp2_with fail
  refine (awake02 _).mono ?_
  rintro e1 w1 ⟨rfl, k1⟩
  have B1 : Below w.heap.size w w1 := ((((Below.refl _ _).alloc (by first | exact Nat.le_refl _ | (simp; done) | (simp; omega) | omega) _).alloc (by first | exact Nat.le_refl _ | (simp; done) | (simp; omega) | omega) _).alloc (by first | exact Nat.le_refl _ | (simp; done) | (simp; omega) | omega) _).trans (k1.mono (by first | exact Nat.le_refl _ | (simp; done) | (simp; omega) | omega))
  have R_a : Rat w1 (w.heap.size) (a1) (a2) := (((Rat.new' (by simp)).alloc _).alloc _).below k1
  have R_b : Rat w1 (w.heap.size + 1) (b1) (b2) := ((Rat.new' (by simp)).alloc _).below k1
  have R_c : Rat w1 (w.heap.size + 1 + 1) (c1) (c2) := (Rat.new' (by simp)).below k1
  clear k1
  obtain ⟨l_a, c_a, d_a⟩ := id R_a
  obtain ⟨l_b, c_b, d_b⟩ := id R_b
  obtain ⟨l_c, c_c, d_c⟩ := id R_c
  go_wp2_with fail
  refine (ratio_Check_yes a1 a2 oa _).mono ?_
  rintro e2 w2 ⟨rfl, k2⟩
  have B2 : Below w.heap.size w w2 := by have z := B1.size; exact B1.trans (k2.mono (by first | exact Nat.le_refl _ | (simp; done) | (simp; omega) | omega))
  replace R_a := R_a.below k2
  replace R_b := R_b.below k2
  replace R_c := R_c.below k2
  clear k2 l_a c_a d_a l_b c_b d_b l_c c_c d_c
  obtain ⟨l_a, c_a, d_a⟩ := id R_a
  obtain ⟨l_b, c_b, d_b⟩ := id R_b
  obtain ⟨l_c, c_c, d_c⟩ := id R_c
  go_wp2_with fail
  refine (ratio_Check_yes b1 b2 ob _).mono ?_
  rintro e3 w3 ⟨rfl, k3⟩
  have B3 : Below w.heap.size w w3 := by have z := B2.size; exact B2.trans (k3.mono (by first | exact Nat.le_refl _ | (simp; done) | (simp; omega) | omega))
  replace R_a := R_a.below k3
  replace R_b := R_b.below k3
  replace R_c := R_c.below k3
  clear k3 l_a c_a d_a l_b c_b d_b l_c c_c d_c
  obtain ⟨l_a, c_a, d_a⟩ := id R_a
  obtain ⟨l_b, c_b, d_b⟩ := id R_b
  obtain ⟨l_c, c_c, d_c⟩ := id R_c
  go_wp2_with fail
  refine (ratio_Check_yes c1 c2 oc _).mono ?_
  rintro e4 w4 ⟨rfl, k4⟩
  have B4 : Below w.heap.size w w4 := by have z := B3.size; exact B3.trans (k4.mono (by first | exact Nat.le_refl _ | (simp; done) | (simp; omega) | omega))
  replace R_a := R_a.below k4
  replace R_b := R_b.below k4
  replace R_c := R_c.below k4
  clear k4 l_a c_a d_a l_b c_b d_b l_c c_c d_c
  obtain ⟨l_a, c_a, d_a⟩ := id R_a
  obtain ⟨l_b, c_b, d_b⟩ := id R_b
  obtain ⟨l_c, c_c, d_c⟩ := id R_c
  go_wp2_with fail
  clear l_a l_b l_c c_c d_c
  go_region_held3 (fun w' => w'.cell? ⟨w.heap.size, 0, none⟩ = some (.int .i64 a1) ∧ w'.cell? ⟨w.heap.size, 1, none⟩ = some (.int .i64 a2) ∧ w'.cell? ⟨w.heap.size + 1, 0, none⟩ = some (.int .i64 b1) ∧ w'.cell? ⟨w.heap.size + 1, 1, none⟩ = some (.int .i64 b2))
    (first | exact ⟨c_a, d_a, c_b, d_b⟩ | exact ⟨hk1 _ _ c_a, hk1 _ _ d_a, hk1 _ _ c_b, hk1 _ _ d_b⟩ | exact ⟨hk2 _ _ (hk1 _ _ c_a), hk2 _ _ (hk1 _ _ d_a), hk2 _ _ (hk1 _ _ c_b), hk2 _ _ (hk1 _ _ d_b)⟩)
    (first
      | (go_at_call 39; (with_reducible refine (ratio_Less_at a1 a2 b1 b2 false _ ha1 ha2 hb1 hb2 H1).mono ?_); rintro e v1 ⟨rfl, hk1, k1⟩)
      | (go_at_call 39; (with_reducible refine (ratio_Less_at b1 b2 a1 a2 true _ hb1 hb2 ha1 ha2 H2).mono ?_); rintro e v2 ⟨rfl, hk2, k2⟩))
  have B5 : Below w.heap.size w v2 := by have z := B4.size; exact ((B4.drew).trans (k1.mono z)).trans (k2.mono (Nat.le_trans z k1.size))
  replace R_a := (Rat.below (w := w4.drew) ⟨R_a.lt, R_a.c0, R_a.c1⟩ k1).below k2
  replace R_b := (Rat.below (w := w4.drew) ⟨R_b.lt, R_b.c0, R_b.c1⟩ k1).below k2
  replace R_c := (Rat.below (w := w4.drew) ⟨R_c.lt, R_c.c0, R_c.c1⟩ k1).below k2
  clear hk1 hk2 k1 k2 c_a d_a c_b d_b B4
  try clear ‹_ ∧ _›
  obtain ⟨l_a, c_a, d_a⟩ := id R_a
  obtain ⟨l_b, c_b, d_b⟩ := id R_b
  obtain ⟨l_c, c_c, d_c⟩ := id R_c
  go_wp2_with fail
  refine (ratio_Less_is a1 a2 b1 b2 false _ ha1 ha2 hb1 hb2 H1.out).mono ?_
  rintro e6 w6 ⟨rfl, k6⟩
  have B6 : Below w.heap.size w w6 := B5.trans (k6.mono B5.size)
  replace R_a := R_a.below k6
  replace R_b := R_b.below k6
  replace R_c := R_c.below k6
  clear k6 l_a c_a d_a l_b c_b d_b l_c c_c d_c
  obtain ⟨l_a, c_a, d_a⟩ := id R_a
  obtain ⟨l_b, c_b, d_b⟩ := id R_b
  obtain ⟨l_c, c_c, d_c⟩ := id R_c
  go_wp2_with fail
  refine (ratio_Minus_is a1 a2 b1 b2 d1 d2 0 _ ha1 ha2 hb1 hb2 HM.out).mono ?_
  rintro e7 w7 ⟨rfl, k7⟩
  have B7 : Below w.heap.size w w7 := B6.trans (k7.mono B6.size)
  replace R_a := R_a.below k7
  replace R_b := R_b.below k7
  replace R_c := R_c.below k7
  clear k7 l_a c_a d_a l_b c_b d_b l_c c_c d_c
  obtain ⟨l_a, c_a, d_a⟩ := id R_a
  obtain ⟨l_b, c_b, d_b⟩ := id R_b
  obtain ⟨l_c, c_c, d_c⟩ := id R_c
  go_wp2_with fail
  have Q_a := R_a.alloc (.cells #[.int .i64 d1, .int .i64 d2] 37)
  have Q_b := R_b.alloc (.cells #[.int .i64 d1, .int .i64 d2] 37)
  have Q_d : Rat (w7.alloc (.cells #[.int .i64 d1, .int .i64 d2] 37)) w7.heap.size d1 d2 := Rat.new' rfl
  have B : Below w.heap.size w (w7.alloc (.cells #[.int .i64 d1, .int .i64 d2] 37)) := B7.alloc B7.size _
  generalize hWW : (w7.alloc (.cells #[.int .i64 d1, .int .i64 d2] 37)) = WW at *
  generalize hDD : w7.heap.size = DD at *
  clear hWW hDD R_a R_b R_c l_a c_a d_a l_b c_b d_b l_c c_c d_c
  go_region_held3 (fun w' => w'.cell? ⟨w.heap.size, 0, none⟩ = some (.int .i64 a1) ∧ w'.cell? ⟨w.heap.size, 1, none⟩ = some (.int .i64 a2) ∧ w'.cell? ⟨w.heap.size + 1, 0, none⟩ = some (.int .i64 b1) ∧ w'.cell? ⟨w.heap.size + 1, 1, none⟩ = some (.int .i64 b2) ∧ w'.cell? ⟨DD, 0, none⟩ = some (.int .i64 d1))
    (first | exact ⟨Q_a.c0, Q_a.c1, Q_b.c0, Q_b.c1, Q_d.c0⟩ | exact ⟨hk1 _ _ Q_a.c0, hk1 _ _ Q_a.c1, hk1 _ _ Q_b.c0, hk1 _ _ Q_b.c1, hk1 _ _ Q_d.c0⟩ | exact ⟨hk2 _ _ (hk1 _ _ Q_a.c0), hk2 _ _ (hk1 _ _ Q_a.c1), hk2 _ _ (hk1 _ _ Q_b.c0), hk2 _ _ (hk1 _ _ Q_b.c1), hk2 _ _ (hk1 _ _ Q_d.c0)⟩)
    (first
      | (go_at_call 39; (with_reducible refine (ratio_Less_at a1 a2 a1 a2 false _ ha1 ha2 ha1 ha2 H5).mono ?_); rintro e v1 ⟨rfl, hk1, k1⟩)
      | (go_at_call 39; (with_reducible refine (ratio_Less_at a1 a2 b1 b2 false _ ha1 ha2 hb1 hb2 H1).mono ?_); rintro e v2 ⟨rfl, hk2, k2⟩))
  go_wp2
  go_ret
  exact ⟨rfl, (B.drew.trans (k1.mono B.size)).trans (k2.mono (Nat.le_trans B.size k1.size))⟩


set_option maxHeartbeats 2000000 in
theorem order_qtf1 (a1 a2 b1 b2 c1 c2 d1 d2 : Int) (oa : Ok a1 a2) (ob : Ok b1 b2) (oc : Ok c1 c2) (q1 : (a1 == b1) = true) (q2 : (a2 == b2) = false) (H1 : Hid (lessP a1 a2 b1 b2 = true)) (H2 : Hid (lessP b1 b2 a1 a2 = false)) (H5 : Hid (lessP a1 a2 a1 a2 = false)) (H3 : Hid (lessP b1 b2 c1 c2 = false)) (s0 : decide (d1 < 0) = true) (HM : Hid (minusP a1 a2 b1 b2 = ((d1, d2), 0))) (w : World) :
    Calls Try.prog 12 #[.agg #[.int .i64 a1, .int .i64 a2], .agg #[.int .i64 b1, .int .i64 b2], .agg #[.int .i64 c1, .int .i64 c2]] w fun e w' => e = .returned (.bool true) ∧ Below w.heap.size w w' := by
  have ha1 := oa.in1
  have ha2 := oa.in2
  have hb1 := ob.in1
  have hb2 := ob.in2
  have hc1 := oc.in1
  have hc2 := oc.in2
  go_enter Try.func12, Try.ntmps12
  go_wp2_with fail
  refine (awake02 _).mono ?_
  rintro e1 w1 ⟨rfl, k1⟩
  have B1 : Below w.heap.size w w1 := ((((Below.refl _ _).alloc (by first | exact Nat.le_refl _ | (simp; done) | (simp; omega) | omega) _).alloc (by first | exact Nat.le_refl _ | (simp; done) | (simp; omega) | omega) _).alloc (by first | exact Nat.le_refl _ | (simp; done) | (simp; omega) | omega) _).trans (k1.mono (by first | exact Nat.le_refl _ | (simp; done) | (simp; omega) | omega))
  have R_a : Rat w1 (w.heap.size) (a1) (a2) := (((Rat.new' (by simp)).alloc _).alloc _).below k1
  have R_b : Rat w1 (w.heap.size + 1) (b1) (b2) := ((Rat.new' (by simp)).alloc _).below k1
  have R_c : Rat w1 (w.heap.size + 1 + 1) (c1) (c2) := (Rat.new' (by simp)).below k1
  clear k1
  obtain ⟨l_a, c_a, d_a⟩ := id R_a
  obtain ⟨l_b, c_b, d_b⟩ := id R_b
  obtain ⟨l_c, c_c, d_c⟩ := id R_c
  go_wp2_with fail
  refine (ratio_Check_yes a1 a2 oa _).mono ?_
  rintro e2 w2 ⟨rfl, k2⟩
  have B2 : Below w.heap.size w w2 := by have z := B1.size; exact B1.trans (k2.mono (by first | exact Nat.le_refl _ | (simp; done) | (simp; omega) | omega))
  replace R_a := R_a.below k2
  replace R_b := R_b.below k2
  replace R_c := R_c.below k2
  clear k2 l_a c_a d_a l_b c_b d_b l_c c_c d_c
  obtain ⟨l_a, c_a, d_a⟩ := id R_a
  obtain ⟨l_b, c_b, d_b⟩ := id R_b
  obtain ⟨l_c, c_c, d_c⟩ := id R_c
  go_wp2_with fail
  refine (ratio_Check_yes b1 b2 ob _).mono ?_
  rintro e3 w3 ⟨rfl, k3⟩
  have B3 : Below w.heap.size w w3 := by have z := B2.size; exact B2.trans (k3.mono (by first | exact Nat.le_refl _ | (simp; done) | (simp; omega) | omega))
  replace R_a := R_a.below k3
  replace R_b := R_b.below k3
  replace R_c := R_c.below k3
  clear k3 l_a c_a d_a l_b c_b d_b l_c c_c d_c
  obtain ⟨l_a, c_a, d_a⟩ := id R_a
  obtain ⟨l_b, c_b, d_b⟩ := id R_b
  obtain ⟨l_c, c_c, d_c⟩ := id R_c
  go_wp2_with fail
  refine (ratio_Check_yes c1 c2 oc _).mono ?_
  rintro e4 w4 ⟨rfl, k4⟩
  have B4 : Below w.heap.size w w4 := by have z := B3.size; exact B3.trans (k4.mono (by first | exact Nat.le_refl _ | (simp; done) | (simp; omega) | omega))
  replace R_a := R_a.below k4
  replace R_b := R_b.below k4
  replace R_c := R_c.below k4
  clear k4 l_a c_a d_a l_b c_b d_b l_c c_c d_c
  obtain ⟨l_a, c_a, d_a⟩ := id R_a
  obtain ⟨l_b, c_b, d_b⟩ := id R_b
  obtain ⟨l_c, c_c, d_c⟩ := id R_c
  go_wp2_with fail
  clear l_a l_b l_c c_c d_c
  go_region_held3 (fun w' => w'.cell? ⟨w.heap.size, 0, none⟩ = some (.int .i64 a1) ∧ w'.cell? ⟨w.heap.size, 1, none⟩ = some (.int .i64 a2) ∧ w'.cell? ⟨w.heap.size + 1, 0, none⟩ = some (.int .i64 b1) ∧ w'.cell? ⟨w.heap.size + 1, 1, none⟩ = some (.int .i64 b2))
    (first | exact ⟨c_a, d_a, c_b, d_b⟩ | exact ⟨hk1 _ _ c_a, hk1 _ _ d_a, hk1 _ _ c_b, hk1 _ _ d_b⟩ | exact ⟨hk2 _ _ (hk1 _ _ c_a), hk2 _ _ (hk1 _ _ d_a), hk2 _ _ (hk1 _ _ c_b), hk2 _ _ (hk1 _ _ d_b)⟩)
    (first
      | (go_at_call 39; (with_reducible refine (ratio_Less_at a1 a2 b1 b2 true _ ha1 ha2 hb1 hb2 H1).mono ?_); rintro e v1 ⟨rfl, hk1, k1⟩)
      | (go_at_call 39; (with_reducible refine (ratio_Less_at b1 b2 a1 a2 false _ hb1 hb2 ha1 ha2 H2).mono ?_); rintro e v2 ⟨rfl, hk2, k2⟩))
  have B5 : Below w.heap.size w v2 := by have z := B4.size; exact ((B4.drew).trans (k1.mono z)).trans (k2.mono (Nat.le_trans z k1.size))
  replace R_a := (Rat.below (w := w4.drew) ⟨R_a.lt, R_a.c0, R_a.c1⟩ k1).below k2
  replace R_b := (Rat.below (w := w4.drew) ⟨R_b.lt, R_b.c0, R_b.c1⟩ k1).below k2
  replace R_c := (Rat.below (w := w4.drew) ⟨R_c.lt, R_c.c0, R_c.c1⟩ k1).below k2
  clear hk1 hk2 k1 k2 c_a d_a c_b d_b B4
  try clear ‹_ ∧ _›
  obtain ⟨l_a, c_a, d_a⟩ := id R_a
  obtain ⟨l_b, c_b, d_b⟩ := id R_b
  obtain ⟨l_c, c_c, d_c⟩ := id R_c
  go_wp2_with fail
  refine (ratio_Less_is a1 a2 b1 b2 true _ ha1 ha2 hb1 hb2 H1.out).mono ?_
  rintro e6 w6 ⟨rfl, k6⟩
  have B6 : Below w.heap.size w w6 := B5.trans (k6.mono B5.size)
  replace R_a := R_a.below k6
  replace R_b := R_b.below k6
  replace R_c := R_c.below k6
  clear k6 l_a c_a d_a l_b c_b d_b l_c c_c d_c
  obtain ⟨l_a, c_a, d_a⟩ := id R_a
  obtain ⟨l_b, c_b, d_b⟩ := id R_b
  obtain ⟨l_c, c_c, d_c⟩ := id R_c
  go_wp2_with fail
  refine (ratio_Less_is b1 b2 c1 c2 false _ hb1 hb2 hc1 hc2 H3.out).mono ?_
  rintro e7 w7 ⟨rfl, k7⟩
  have B7 : Below w.heap.size w w7 := B6.trans (k7.mono B6.size)
  replace R_a := R_a.below k7
  replace R_b := R_b.below k7
  replace R_c := R_c.below k7
  clear k7 l_a c_a d_a l_b c_b d_b l_c c_c d_c
  obtain ⟨l_a, c_a, d_a⟩ := id R_a
  obtain ⟨l_b, c_b, d_b⟩ := id R_b
  obtain ⟨l_c, c_c, d_c⟩ := id R_c
  go_wp2_with fail
  refine (ratio_Minus_is a1 a2 b1 b2 d1 d2 0 _ ha1 ha2 hb1 hb2 HM.out).mono ?_
  rintro e8 w8 ⟨rfl, k8⟩
  have B8 : Below w.heap.size w w8 := B7.trans (k8.mono B7.size)
  replace R_a := R_a.below k8
  replace R_b := R_b.below k8
  replace R_c := R_c.below k8
  clear k8 l_a c_a d_a l_b c_b d_b l_c c_c d_c
  obtain ⟨l_a, c_a, d_a⟩ := id R_a
  obtain ⟨l_b, c_b, d_b⟩ := id R_b
  obtain ⟨l_c, c_c, d_c⟩ := id R_c
  go_wp2_with fail
  have Q_a := R_a.alloc (.cells #[.int .i64 d1, .int .i64 d2] 37)
  have Q_b := R_b.alloc (.cells #[.int .i64 d1, .int .i64 d2] 37)
  have Q_d : Rat (w8.alloc (.cells #[.int .i64 d1, .int .i64 d2] 37)) w8.heap.size d1 d2 := Rat.new' rfl
  have B : Below w.heap.size w (w8.alloc (.cells #[.int .i64 d1, .int .i64 d2] 37)) := B8.alloc B8.size _
  generalize hWW : (w8.alloc (.cells #[.int .i64 d1, .int .i64 d2] 37)) = WW at *
  generalize hDD : w8.heap.size = DD at *
  clear hWW hDD R_a R_b R_c l_a c_a d_a l_b c_b d_b l_c c_c d_c
  go_region_held3 (fun w' => w'.cell? ⟨w.heap.size, 0, none⟩ = some (.int .i64 a1) ∧ w'.cell? ⟨w.heap.size, 1, none⟩ = some (.int .i64 a2) ∧ w'.cell? ⟨w.heap.size + 1, 0, none⟩ = some (.int .i64 b1) ∧ w'.cell? ⟨w.heap.size + 1, 1, none⟩ = some (.int .i64 b2) ∧ w'.cell? ⟨DD, 0, none⟩ = some (.int .i64 d1))
    (first | exact ⟨Q_a.c0, Q_a.c1, Q_b.c0, Q_b.c1, Q_d.c0⟩ | exact ⟨hk1 _ _ Q_a.c0, hk1 _ _ Q_a.c1, hk1 _ _ Q_b.c0, hk1 _ _ Q_b.c1, hk1 _ _ Q_d.c0⟩ | exact ⟨hk2 _ _ (hk1 _ _ Q_a.c0), hk2 _ _ (hk1 _ _ Q_a.c1), hk2 _ _ (hk1 _ _ Q_b.c0), hk2 _ _ (hk1 _ _ Q_b.c1), hk2 _ _ (hk1 _ _ Q_d.c0)⟩)
    (first
      | (go_at_call 39; (with_reducible refine (ratio_Less_at a1 a2 a1 a2 false _ ha1 ha2 ha1 ha2 H5).mono ?_); rintro e v1 ⟨rfl, hk1, k1⟩)
      | (go_at_call 39; (with_reducible refine (ratio_Less_at a1 a2 b1 b2 true _ ha1 ha2 hb1 hb2 H1).mono ?_); rintro e v2 ⟨rfl, hk2, k2⟩))
  go_wp2
  go_ret
  exact ⟨rfl, (B.drew.trans (k1.mono B.size)).trans (k2.mono (Nat.le_trans B.size k1.size))⟩


set_option maxHeartbeats 2000000 in
theorem order_qtt1 (a1 a2 b1 b2 c1 c2 d1 d2 : Int) (oa : Ok a1 a2) (ob : Ok b1 b2) (oc : Ok c1 c2) (q1 : (a1 == b1) = true) (q2 : (a2 == b2) = false) (H1 : Hid (lessP a1 a2 b1 b2 = true)) (H2 : Hid (lessP b1 b2 a1 a2 = false)) (H5 : Hid (lessP a1 a2 a1 a2 = false)) (H3 : Hid (lessP b1 b2 c1 c2 = true)) (H4 : Hid (lessP a1 a2 c1 c2 = true)) (s0 : decide (d1 < 0) = true) (HM : Hid (minusP a1 a2 b1 b2 = ((d1, d2), 0))) (w : World) :
    Calls Try.prog 12 #[.agg #[.int .i64 a1, .int .i64 a2], .agg #[.int .i64 b1, .int .i64 b2], .agg #[.int .i64 c1, .int .i64 c2]] w fun e w' => e = .returned (.bool true) ∧ Below w.heap.size w w' := by
  have ha1 := oa.in1
  have ha2 := oa.in2
  have hb1 := ob.in1
  have hb2 := ob.in2
  have hc1 := oc.in1
  have hc2 := oc.in2
  go_enter Try.func12, Try.ntmps12
  go_wp2_with fail
  refine (awake02 _).mono ?_
  rintro e1 w1 ⟨rfl, k1⟩
  have B1 : Below w.heap.size w w1 := ((((Below.refl _ _).alloc (by first | exact Nat.le_refl _ | (simp; done) | (simp; omega) | omega) _).alloc (by first | exact Nat.le_refl _ | (simp; done) | (simp; omega) | omega) _).alloc (by first | exact Nat.le_refl _ | (simp; done) | (simp; omega) | omega) _).trans (k1.mono (by first | exact Nat.le_refl _ | (simp; done) | (simp; omega) | omega))
  have R_a : Rat w1 (w.heap.size) (a1) (a2) := (((Rat.new' (by simp)).alloc _).alloc _).below k1
  have R_b : Rat w1 (w.heap.size + 1) (b1) (b2) := ((Rat.new' (by simp)).alloc _).below k1
  have R_c : Rat w1 (w.heap.size + 1 + 1) (c1) (c2) := (Rat.new' (by simp)).below k1
  clear k1
  obtain ⟨l_a, c_a, d_a⟩ := id R_a
  obtain ⟨l_b, c_b, d_b⟩ := id R_b
  obtain ⟨l_c, c_c, d_c⟩ := id R_c
  go_wp2_with fail
  refine (ratio_Check_yes a1 a2 oa _).mono ?_
  rintro e2 w2 ⟨rfl, k2⟩
  have B2 : Below w.heap.size w w2 := by have z := B1.size; exact B1.trans (k2.mono (by first | exact Nat.le_refl _ | (simp; done) | (simp; omega) | omega))
  replace R_a := R_a.below k2
  replace R_b := R_b.below k2
  replace R_c := R_c.below k2
  clear k2 l_a c_a d_a l_b c_b d_b l_c c_c d_c
  obtain ⟨l_a, c_a, d_a⟩ := id R_a
  obtain ⟨l_b, c_b, d_b⟩ := id R_b
  obtain ⟨l_c, c_c, d_c⟩ := id R_c
  go_wp2_with fail
  refine (ratio_Check_yes b1 b2 ob _).mono ?_
  rintro e3 w3 ⟨rfl, k3⟩
  have B3 : Below w.heap.size w w3 := by have z := B2.size; exact B2.trans (k3.mono (by first | exact Nat.le_refl _ | (simp; done) | (simp; omega) | omega))
  replace R_a := R_a.below k3
  replace R_b := R_b.below k3
  replace R_c := R_c.below k3
  clear k3 l_a c_a d_a l_b c_b d_b l_c c_c d_c
  obtain ⟨l_a, c_a, d_a⟩ := id R_a
  obtain ⟨l_b, c_b, d_b⟩ := id R_b
  obtain ⟨l_c, c_c, d_c⟩ := id R_c
  go_wp2_with fail
  refine (ratio_Check_yes c1 c2 oc _).mono ?_
  rintro e4 w4 ⟨rfl, k4⟩
  have B4 : Below w.heap.size w w4 := by have z := B3.size; exact B3.trans (k4.mono (by first | exact Nat.le_refl _ | (simp; done) | (simp; omega) | omega))
  replace R_a := R_a.below k4
  replace R_b := R_b.below k4
  replace R_c := R_c.below k4
  clear k4 l_a c_a d_a l_b c_b d_b l_c c_c d_c
  obtain ⟨l_a, c_a, d_a⟩ := id R_a
  obtain ⟨l_b, c_b, d_b⟩ := id R_b
  obtain ⟨l_c, c_c, d_c⟩ := id R_c
  go_wp2_with fail
  clear l_a l_b l_c c_c d_c
  go_region_held3 (fun w' => w'.cell? ⟨w.heap.size, 0, none⟩ = some (.int .i64 a1) ∧ w'.cell? ⟨w.heap.size, 1, none⟩ = some (.int .i64 a2) ∧ w'.cell? ⟨w.heap.size + 1, 0, none⟩ = some (.int .i64 b1) ∧ w'.cell? ⟨w.heap.size + 1, 1, none⟩ = some (.int .i64 b2))
    (first | exact ⟨c_a, d_a, c_b, d_b⟩ | exact ⟨hk1 _ _ c_a, hk1 _ _ d_a, hk1 _ _ c_b, hk1 _ _ d_b⟩ | exact ⟨hk2 _ _ (hk1 _ _ c_a), hk2 _ _ (hk1 _ _ d_a), hk2 _ _ (hk1 _ _ c_b), hk2 _ _ (hk1 _ _ d_b)⟩)
    (first
      | (go_at_call 39; (with_reducible refine (ratio_Less_at a1 a2 b1 b2 true _ ha1 ha2 hb1 hb2 H1).mono ?_); rintro e v1 ⟨rfl, hk1, k1⟩)
      | (go_at_call 39; (with_reducible refine (ratio_Less_at b1 b2 a1 a2 false _ hb1 hb2 ha1 ha2 H2).mono ?_); rintro e v2 ⟨rfl, hk2, k2⟩))
  have B5 : Below w.heap.size w v2 := by have z := B4.size; exact ((B4.drew).trans (k1.mono z)).trans (k2.mono (Nat.le_trans z k1.size))
  replace R_a := (Rat.below (w := w4.drew) ⟨R_a.lt, R_a.c0, R_a.c1⟩ k1).below k2
  replace R_b := (Rat.below (w := w4.drew) ⟨R_b.lt, R_b.c0, R_b.c1⟩ k1).below k2
  replace R_c := (Rat.below (w := w4.drew) ⟨R_c.lt, R_c.c0, R_c.c1⟩ k1).below k2
  clear hk1 hk2 k1 k2 c_a d_a c_b d_b B4
  try clear ‹_ ∧ _›
  obtain ⟨l_a, c_a, d_a⟩ := id R_a
  obtain ⟨l_b, c_b, d_b⟩ := id R_b
  obtain ⟨l_c, c_c, d_c⟩ := id R_c
  go_wp2_with fail
  refine (ratio_Less_is a1 a2 b1 b2 true _ ha1 ha2 hb1 hb2 H1.out).mono ?_
  rintro e6 w6 ⟨rfl, k6⟩
  have B6 : Below w.heap.size w w6 := B5.trans (k6.mono B5.size)
  replace R_a := R_a.below k6
  replace R_b := R_b.below k6
  replace R_c := R_c.below k6
  clear k6 l_a c_a d_a l_b c_b d_b l_c c_c d_c
  obtain ⟨l_a, c_a, d_a⟩ := id R_a
  obtain ⟨l_b, c_b, d_b⟩ := id R_b
  obtain ⟨l_c, c_c, d_c⟩ := id R_c
  go_wp2_with fail
  refine (ratio_Less_is b1 b2 c1 c2 true _ hb1 hb2 hc1 hc2 H3.out).mono ?_
  rintro e7 w7 ⟨rfl, k7⟩
  have B7 : Below w.heap.size w w7 := B6.trans (k7.mono B6.size)
  replace R_a := R_a.below k7
  replace R_b := R_b.below k7
  replace R_c := R_c.below k7
  clear k7 l_a c_a d_a l_b c_b d_b l_c c_c d_c
  obtain ⟨l_a, c_a, d_a⟩ := id R_a
  obtain ⟨l_b, c_b, d_b⟩ := id R_b
  obtain ⟨l_c, c_c, d_c⟩ := id R_c
  go_wp2_with fail
  refine (ratio_Less_is a1 a2 c1 c2 true _ ha1 ha2 hc1 hc2 H4.out).mono ?_
  rintro e8 w8 ⟨rfl, k8⟩
  have B8 : Below w.heap.size w w8 := B7.trans (k8.mono B7.size)
  replace R_a := R_a.below k8
  replace R_b := R_b.below k8
  replace R_c := R_c.below k8
  clear k8 l_a c_a d_a l_b c_b d_b l_c c_c d_c
  obtain ⟨l_a, c_a, d_a⟩ := id R_a
  obtain ⟨l_b, c_b, d_b⟩ := id R_b
  obtain ⟨l_c, c_c, d_c⟩ := id R_c
  go_wp2_with fail
  refine (ratio_Minus_is a1 a2 b1 b2 d1 d2 0 _ ha1 ha2 hb1 hb2 HM.out).mono ?_
  rintro e9 w9 ⟨rfl, k9⟩
  have B9 : Below w.heap.size w w9 := B8.trans (k9.mono B8.size)
  replace R_a := R_a.below k9
  replace R_b := R_b.below k9
  replace R_c := R_c.below k9
  clear k9 l_a c_a d_a l_b c_b d_b l_c c_c d_c
  obtain ⟨l_a, c_a, d_a⟩ := id R_a
  obtain ⟨l_b, c_b, d_b⟩ := id R_b
  obtain ⟨l_c, c_c, d_c⟩ := id R_c
  go_wp2_with fail
  have Q_a := R_a.alloc (.cells #[.int .i64 d1, .int .i64 d2] 37)
  have Q_b := R_b.alloc (.cells #[.int .i64 d1, .int .i64 d2] 37)
  have Q_d : Rat (w9.alloc (.cells #[.int .i64 d1, .int .i64 d2] 37)) w9.heap.size d1 d2 := Rat.new' rfl
  have B : Below w.heap.size w (w9.alloc (.cells #[.int .i64 d1, .int .i64 d2] 37)) := B9.alloc B9.size _
  generalize hWW : (w9.alloc (.cells #[.int .i64 d1, .int .i64 d2] 37)) = WW at *
  generalize hDD : w9.heap.size = DD at *
  clear hWW hDD R_a R_b R_c l_a c_a d_a l_b c_b d_b l_c c_c d_c
  go_region_held3 (fun w' => w'.cell? ⟨w.heap.size, 0, none⟩ = some (.int .i64 a1) ∧ w'.cell? ⟨w.heap.size, 1, none⟩ = some (.int .i64 a2) ∧ w'.cell? ⟨w.heap.size + 1, 0, none⟩ = some (.int .i64 b1) ∧ w'.cell? ⟨w.heap.size + 1, 1, none⟩ = some (.int .i64 b2) ∧ w'.cell? ⟨DD, 0, none⟩ = some (.int .i64 d1))
    (first | exact ⟨Q_a.c0, Q_a.c1, Q_b.c0, Q_b.c1, Q_d.c0⟩ | exact ⟨hk1 _ _ Q_a.c0, hk1 _ _ Q_a.c1, hk1 _ _ Q_b.c0, hk1 _ _ Q_b.c1, hk1 _ _ Q_d.c0⟩ | exact ⟨hk2 _ _ (hk1 _ _ Q_a.c0), hk2 _ _ (hk1 _ _ Q_a.c1), hk2 _ _ (hk1 _ _ Q_b.c0), hk2 _ _ (hk1 _ _ Q_b.c1), hk2 _ _ (hk1 _ _ Q_d.c0)⟩)
    (first
      | (go_at_call 39; (with_reducible refine (ratio_Less_at a1 a2 a1 a2 false _ ha1 ha2 ha1 ha2 H5).mono ?_); rintro e v1 ⟨rfl, hk1, k1⟩)
      | (go_at_call 39; (with_reducible refine (ratio_Less_at a1 a2 b1 b2 true _ ha1 ha2 hb1 hb2 H1).mono ?_); rintro e v2 ⟨rfl, hk2, k2⟩))
  go_wp2
  go_ret
  exact ⟨rfl, (B.drew.trans (k1.mono B.size)).trans (k2.mono (Nat.le_trans B.size k1.size))⟩

end Go.Proofs.Ytangogkmilpfiaa
