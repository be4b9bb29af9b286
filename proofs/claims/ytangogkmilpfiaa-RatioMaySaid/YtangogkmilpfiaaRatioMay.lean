/- THE WALK of RatioMay: it returns true, and turns nothing that was there. -/
import Derived.Test.YtangogkmilpfiaaRatioUp
import Derived.Test.YtangogkmilpfiaaPlainRatio2
namespace Go.Proofs.Ytangogkmilpfiaa
open Go.RowKit Lu

theorem ratio_Check_b (n d : Int) (b : Bool) (hn : In n) (hd : In d) (h : Hid (b = decide (Ok n d))) (w : World) :
    Calls Try.prog 43 #[.agg #[.int .i64 n, .int .i64 d]] w fun e w' => e = .returned (.bool b) ∧ Below w.heap.size w w' := by
  rw [h.out]
  by_cases o : Ok n d
  · rw [decide_eq_true o]; exact ratio_Check_yes n d o w
  · rw [decide_eq_false o]; exact ratio_Check_no n d hn hd o w

set_option maxHeartbeats 4000000 in
theorem ratioMay_walk (a1 a2 b1 b2 n d : Int) (ha1 : In a1) (ha2 : In a2) (hb1 : In b1) (hb2 : In b2) (hn : -2147483648 ≤ n ∧ n ≤ 2147483647) (hd : -2147483648 ≤ d ∧ d ≤ 2147483647) (w : World) :
    Calls Try.prog 10 #[.agg #[.int .i64 a1, .int .i64 a2], .agg #[.int .i64 b1, .int .i64 b2], .int .i32 n, .int .i32 d] w fun e w' => e = .returned (.bool true) ∧ Below w.heap.size w w' := by
  obtain ⟨x, y, e, hm⟩ : ∃ x y e, mkP n d = ((x, y), e) := ⟨_, _, _, rfl⟩
  obtain ⟨s1, s2, f, hs⟩ : ∃ x y e, addRP a1 a2 b1 b2 = ((x, y), e) := ⟨_, _, _, rfl⟩
  obtain ⟨p1, p2, g, hp⟩ : ∃ x y e, mulRP a1 a2 b1 b2 = ((x, y), e) := ⟨_, _, _, rfl⟩
  obtain ⟨q1, q2, h, hq⟩ : ∃ x y e, divRP a1 a2 b1 b2 = ((x, y), e) := ⟨_, _, _, rfl⟩
  obtain ⟨r1, r2, i, hr⟩ : ∃ x y e, minusP a1 a2 b1 b2 = ((x, y), e) := ⟨_, _, _, rfl⟩
  have hn' : In n := by unfold In; omega
  have hd' : In d := by unfold In; omega
  obtain ⟨ts1, ts2⟩ := two_range hs
  obtain ⟨tp1, tp2⟩ := two_range hp
  obtain ⟨tq1, tq2⟩ := two_range hq
  obtain ⟨tr1, tr2⟩ := two_range hr
  have us := two_tells (fun h1 h2 => add_in h1 h2) hs
  have up := two_tells (fun h1 h2 => mul_in h1 h2) hp
  have uq := two_tells (fun h1 h2 => div_in h1 h2) hq
  have ur := two_tells (fun h1 h2 => minus_in h1 h2) hr
  have ts := Lib.hid us
  have tp := Lib.hid up
  have tq := Lib.hid uq
  have tr := Lib.hid ur
  have HS := Lib.hid ((sumRP_pair a1 a2 b1 b2).trans hs)
  have HP := Lib.hid hp
  have HQ := Lib.hid hq
  have HR := Lib.hid hr
  clear hs hp hq hr us up uq ur
  by_cases he : e = 0
  · subst he
    obtain ⟨ox, hxy, hd0⟩ := mkP_is_ok hn' hd' hm
    have c1 := ox.num
    have c2 := ox.den
    have m1 : (x * d).natAbs = x.natAbs * d.natAbs := Int.natAbs_mul _ _
    have m2 : x.natAbs * d.natAbs ≤ 2147483648 * 2147483648 := Nat.mul_le_mul (by omega) (by omega)
    have m3 : (n * y).natAbs = n.natAbs * y.natAbs := Int.natAbs_mul _ _
    have m4 : n.natAbs * y.natAbs ≤ 2147483648 * 2147483648 := Nat.mul_le_mul (by omega) (by omega)
    have i1 : -9223372036854775808 ≤ x * d ∧ x * d ≤ 9223372036854775807 := by omega
    have i2 : -9223372036854775808 ≤ n * y ∧ n * y ≤ 9223372036854775807 := by omega
    have eq1 : (x * d == n * y) = true := by simp [hxy]
    have HM := Lib.hid hm
    clear hm m1 m2 m3 m4 hxy
    go_enter Try.func10, Try.ntmps10
    go_wp2_with fail
    refine (awake02 _).mono ?_
    rintro e1 w1 ⟨rfl, k1⟩
    have B1 : Below w.heap.size w w1 := (((Below.refl _ _).alloc (by first | exact Nat.le_refl _ | (simp; done) | (simp; omega) | omega) _).alloc (by first | exact Nat.le_refl _ | (simp; done) | (simp; omega) | omega) _).trans (k1.mono (by first | exact Nat.le_refl _ | (simp; done) | (simp; omega) | omega))
    have R_a : Rat w1 (w.heap.size) (a1) (a2) := ((Rat.new' (by simp)).alloc _).below k1
    have R_b : Rat w1 (w.heap.size + 1) (b1) (b2) := (Rat.new' (by simp)).below k1
    clear k1
    obtain ⟨l_a, c_a, d_a⟩ := id R_a
    obtain ⟨l_b, c_b, d_b⟩ := id R_b
    go_wp2_with fail
    refine (ratio_Make_is n d x y 0 _ hn' hd' HM.out).mono ?_
    rintro e2 w2 ⟨rfl, k2⟩
    have B2 : Below w.heap.size w w2 := by have z := B1.size; exact B1.trans (k2.mono (by first | exact Nat.le_refl _ | (simp; done) | (simp; omega) | omega))
    replace R_a := R_a.below k2
    replace R_b := R_b.below k2
    clear k2 l_a c_a d_a l_b c_b d_b
    obtain ⟨l_a, c_a, d_a⟩ := id R_a
    obtain ⟨l_b, c_b, d_b⟩ := id R_b
    go_wp2_with fail
    refine (ratio_Sum_is _ _ _ [(a1, a2), (b1, b2)] _ _ _ _ (Ratios_new2 _ _ (by simp) a1 a2 b1 b2 _ ha1 ha2 hb1 hb2) HS.out).mono ?_
    rintro e3 w3 ⟨rfl, k3⟩
    have B3 : Below w.heap.size w w3 := by have z := B2.size; exact ((B2.alloc (by first | exact Nat.le_refl _ | (simp; done) | (simp; omega) | omega) _).alloc (by first | exact Nat.le_refl _ | (simp; done) | (simp; omega) | omega) _).trans (k3.mono (by first | exact Nat.le_refl _ | (simp; done) | (simp; omega) | omega))
    replace R_a := ((R_a.alloc _).alloc _).below k3
    replace R_b := ((R_b.alloc _).alloc _).below k3
    have R_m : Rat w3 (w2.heap.size) (x) (y) := ((Rat.new' (by simp)).alloc _).below k3
    clear k3 l_a c_a d_a l_b c_b d_b
    obtain ⟨l_a, c_a, d_a⟩ := id R_a
    obtain ⟨l_b, c_b, d_b⟩ := id R_b
    obtain ⟨l_m, c_m, d_m⟩ := id R_m
    go_wp2_with fail
    refine (ratio_Mul_is a1 a2 b1 b2 _ _ _ _ ha1 ha2 hb1 hb2 HP.out).mono ?_
    rintro e4 w4 ⟨rfl, k4⟩
    have B4 : Below w.heap.size w w4 := by have z := B3.size; exact (B3.alloc (by first | exact Nat.le_refl _ | (simp; done) | (simp; omega) | omega) _).trans (k4.mono (by first | exact Nat.le_refl _ | (simp; done) | (simp; omega) | omega))
    replace R_a := (R_a.alloc _).below k4
    replace R_b := (R_b.alloc _).below k4
    replace R_m := (R_m.alloc _).below k4
    have R_s : Rat w4 (w3.heap.size) (s1) (s2) := (Rat.new' (by simp)).below k4
    clear k4 l_a c_a d_a l_b c_b d_b l_m c_m d_m
    obtain ⟨l_a, c_a, d_a⟩ := id R_a
    obtain ⟨l_b, c_b, d_b⟩ := id R_b
    obtain ⟨l_m, c_m, d_m⟩ := id R_m
    obtain ⟨l_s, c_s, d_s⟩ := id R_s
    go_wp2_with fail
    refine (ratio_Div_is a1 a2 b1 b2 _ _ _ _ ha1 ha2 hb1 hb2 HQ.out).mono ?_
    rintro e5 w5 ⟨rfl, k5⟩
    have B5 : Below w.heap.size w w5 := by have z := B4.size; exact (B4.alloc (by first | exact Nat.le_refl _ | (simp; done) | (simp; omega) | omega) _).trans (k5.mono (by first | exact Nat.le_refl _ | (simp; done) | (simp; omega) | omega))
    replace R_a := (R_a.alloc _).below k5
    replace R_b := (R_b.alloc _).below k5
    replace R_m := (R_m.alloc _).below k5
    replace R_s := (R_s.alloc _).below k5
    have R_p : Rat w5 (w4.heap.size) (p1) (p2) := (Rat.new' (by simp)).below k5
    clear k5 l_a c_a d_a l_b c_b d_b l_m c_m d_m l_s c_s d_s
    obtain ⟨l_a, c_a, d_a⟩ := id R_a
    obtain ⟨l_b, c_b, d_b⟩ := id R_b
    obtain ⟨l_m, c_m, d_m⟩ := id R_m
    obtain ⟨l_s, c_s, d_s⟩ := id R_s
    obtain ⟨l_p, c_p, d_p⟩ := id R_p
    go_wp2_with fail
    refine (ratio_Minus_is a1 a2 b1 b2 _ _ _ _ ha1 ha2 hb1 hb2 HR.out).mono ?_
    rintro e6 w6 ⟨rfl, k6⟩
    have B6 : Below w.heap.size w w6 := by have z := B5.size; exact (B5.alloc (by first | exact Nat.le_refl _ | (simp; done) | (simp; omega) | omega) _).trans (k6.mono (by first | exact Nat.le_refl _ | (simp; done) | (simp; omega) | omega))
    replace R_a := (R_a.alloc _).below k6
    replace R_b := (R_b.alloc _).below k6
    replace R_m := (R_m.alloc _).below k6
    replace R_s := (R_s.alloc _).below k6
    replace R_p := (R_p.alloc _).below k6
    have R_q : Rat w6 (w5.heap.size) (q1) (q2) := (Rat.new' (by simp)).below k6
    clear k6 l_a c_a d_a l_b c_b d_b l_m c_m d_m l_s c_s d_s l_p c_p d_p
    obtain ⟨l_a, c_a, d_a⟩ := id R_a
    obtain ⟨l_b, c_b, d_b⟩ := id R_b
    obtain ⟨l_m, c_m, d_m⟩ := id R_m
    obtain ⟨l_s, c_s, d_s⟩ := id R_s
    obtain ⟨l_p, c_p, d_p⟩ := id R_p
    obtain ⟨l_q, c_q, d_q⟩ := id R_q
    go_wp2_with fail
    refine (ratio_Check_yes x y ox _).mono ?_
    rintro e7 w7 ⟨rfl, k7⟩
    have B7 : Below w.heap.size w w7 := by have z := B6.size; exact (B6.alloc (by first | exact Nat.le_refl _ | (simp; done) | (simp; omega) | omega) _).trans (k7.mono (by first | exact Nat.le_refl _ | (simp; done) | (simp; omega) | omega))
    replace R_a := (R_a.alloc _).below k7
    replace R_b := (R_b.alloc _).below k7
    replace R_m := (R_m.alloc _).below k7
    replace R_s := (R_s.alloc _).below k7
    replace R_p := (R_p.alloc _).below k7
    replace R_q := (R_q.alloc _).below k7
    have R_r : Rat w7 (w6.heap.size) (r1) (r2) := (Rat.new' (by simp)).below k7
    clear k7 l_a c_a d_a l_b c_b d_b l_m c_m d_m l_s c_s d_s l_p c_p d_p l_q c_q d_q
    obtain ⟨l_a, c_a, d_a⟩ := id R_a
    obtain ⟨l_b, c_b, d_b⟩ := id R_b
    obtain ⟨l_m, c_m, d_m⟩ := id R_m
    obtain ⟨l_s, c_s, d_s⟩ := id R_s
    obtain ⟨l_p, c_p, d_p⟩ := id R_p
    obtain ⟨l_q, c_q, d_q⟩ := id R_q
    obtain ⟨l_r, c_r, d_r⟩ := id R_r
    go_wp2_with fail
    refine (ratio_Check_b s1 s2 _ ts1 ts2 ts _).mono ?_
    rintro e8 w8 ⟨rfl, k8⟩
    have B8 : Below w.heap.size w w8 := by have z := B7.size; exact B7.trans (k8.mono (by first | exact Nat.le_refl _ | (simp; done) | (simp; omega) | omega))
    replace R_a := R_a.below k8
    replace R_b := R_b.below k8
    replace R_m := R_m.below k8
    replace R_s := R_s.below k8
    replace R_p := R_p.below k8
    replace R_q := R_q.below k8
    replace R_r := R_r.below k8
    clear k8 l_a c_a d_a l_b c_b d_b l_m c_m d_m l_s c_s d_s l_p c_p d_p l_q c_q d_q l_r c_r d_r
    obtain ⟨l_a, c_a, d_a⟩ := id R_a
    obtain ⟨l_b, c_b, d_b⟩ := id R_b
    obtain ⟨l_m, c_m, d_m⟩ := id R_m
    obtain ⟨l_s, c_s, d_s⟩ := id R_s
    obtain ⟨l_p, c_p, d_p⟩ := id R_p
    obtain ⟨l_q, c_q, d_q⟩ := id R_q
    obtain ⟨l_r, c_r, d_r⟩ := id R_r
    go_wp2_with fail
    refine (ratio_Check_b p1 p2 _ tp1 tp2 tp _).mono ?_
    rintro e9 w9 ⟨rfl, k9⟩
    have B9 : Below w.heap.size w w9 := by have z := B8.size; exact B8.trans (k9.mono (by first | exact Nat.le_refl _ | (simp; done) | (simp; omega) | omega))
    replace R_a := R_a.below k9
    replace R_b := R_b.below k9
    replace R_m := R_m.below k9
    replace R_s := R_s.below k9
    replace R_p := R_p.below k9
    replace R_q := R_q.below k9
    replace R_r := R_r.below k9
    clear k9 l_a c_a d_a l_b c_b d_b l_m c_m d_m l_s c_s d_s l_p c_p d_p l_q c_q d_q l_r c_r d_r
    obtain ⟨l_a, c_a, d_a⟩ := id R_a
    obtain ⟨l_b, c_b, d_b⟩ := id R_b
    obtain ⟨l_m, c_m, d_m⟩ := id R_m
    obtain ⟨l_s, c_s, d_s⟩ := id R_s
    obtain ⟨l_p, c_p, d_p⟩ := id R_p
    obtain ⟨l_q, c_q, d_q⟩ := id R_q
    obtain ⟨l_r, c_r, d_r⟩ := id R_r
    go_wp2_with fail
    refine (ratio_Check_b q1 q2 _ tq1 tq2 tq _).mono ?_
    rintro e10 w10 ⟨rfl, k10⟩
    have B10 : Below w.heap.size w w10 := by have z := B9.size; exact B9.trans (k10.mono (by first | exact Nat.le_refl _ | (simp; done) | (simp; omega) | omega))
    replace R_a := R_a.below k10
    replace R_b := R_b.below k10
    replace R_m := R_m.below k10
    replace R_s := R_s.below k10
    replace R_p := R_p.below k10
    replace R_q := R_q.below k10
    replace R_r := R_r.below k10
    clear k10 l_a c_a d_a l_b c_b d_b l_m c_m d_m l_s c_s d_s l_p c_p d_p l_q c_q d_q l_r c_r d_r
    obtain ⟨l_a, c_a, d_a⟩ := id R_a
    obtain ⟨l_b, c_b, d_b⟩ := id R_b
    obtain ⟨l_m, c_m, d_m⟩ := id R_m
    obtain ⟨l_s, c_s, d_s⟩ := id R_s
    obtain ⟨l_p, c_p, d_p⟩ := id R_p
    obtain ⟨l_q, c_q, d_q⟩ := id R_q
    obtain ⟨l_r, c_r, d_r⟩ := id R_r
    go_wp2_with fail
    refine (ratio_Check_b r1 r2 _ tr1 tr2 tr _).mono ?_
    rintro e11 w11 ⟨rfl, k11⟩
    have B11 : Below w.heap.size w w11 := by have z := B10.size; exact B10.trans (k11.mono (by first | exact Nat.le_refl _ | (simp; done) | (simp; omega) | omega))
    replace R_a := R_a.below k11
    replace R_b := R_b.below k11
    replace R_m := R_m.below k11
    replace R_s := R_s.below k11
    replace R_p := R_p.below k11
    replace R_q := R_q.below k11
    replace R_r := R_r.below k11
    clear k11 l_a c_a d_a l_b c_b d_b l_m c_m d_m l_s c_s d_s l_p c_p d_p l_q c_q d_q l_r c_r d_r
    obtain ⟨l_a, c_a, d_a⟩ := id R_a
    obtain ⟨l_b, c_b, d_b⟩ := id R_b
    obtain ⟨l_m, c_m, d_m⟩ := id R_m
    obtain ⟨l_s, c_s, d_s⟩ := id R_s
    obtain ⟨l_p, c_p, d_p⟩ := id R_p
    obtain ⟨l_q, c_q, d_q⟩ := id R_q
    obtain ⟨l_r, c_r, d_r⟩ := id R_r
    go_wp2_with fail
    go_ret
    exact ⟨rfl, B11⟩
  · obtain ⟨rfl, rfl⟩ := mkP_err hm he
    have e1 : (e == 0) = false := by simp [he]
    have e2 : (e != 0) = true := by simp [he]
    have HM := Lib.hid hm
    clear hm he
    go_enter Try.func10, Try.ntmps10
    go_wp2_with fail
    refine (awake02 _).mono ?_
    rintro e1 w1 ⟨rfl, k1⟩
    have B1 : Below w.heap.size w w1 := (((Below.refl _ _).alloc (by first | exact Nat.le_refl _ | (simp; done) | (simp; omega) | omega) _).alloc (by first | exact Nat.le_refl _ | (simp; done) | (simp; omega) | omega) _).trans (k1.mono (by first | exact Nat.le_refl _ | (simp; done) | (simp; omega) | omega))
    have R_a : Rat w1 (w.heap.size) (a1) (a2) := ((Rat.new' (by simp)).alloc _).below k1
    have R_b : Rat w1 (w.heap.size + 1) (b1) (b2) := (Rat.new' (by simp)).below k1
    clear k1
    obtain ⟨l_a, c_a, d_a⟩ := id R_a
    obtain ⟨l_b, c_b, d_b⟩ := id R_b
    go_wp2_with fail
    refine (ratio_Make_is n d 0 0 e _ hn' hd' HM.out).mono ?_
    rintro e2 w2 ⟨rfl, k2⟩
    have B2 : Below w.heap.size w w2 := by have z := B1.size; exact B1.trans (k2.mono (by first | exact Nat.le_refl _ | (simp; done) | (simp; omega) | omega))
    replace R_a := R_a.below k2
    replace R_b := R_b.below k2
    clear k2 l_a c_a d_a l_b c_b d_b
    obtain ⟨l_a, c_a, d_a⟩ := id R_a
    obtain ⟨l_b, c_b, d_b⟩ := id R_b
    go_wp2_with fail
    refine (ratio_Sum_is _ _ _ [(a1, a2), (b1, b2)] _ _ _ _ (Ratios_new2 _ _ (by simp) a1 a2 b1 b2 _ ha1 ha2 hb1 hb2) HS.out).mono ?_
    rintro e3 w3 ⟨rfl, k3⟩
    have B3 : Below w.heap.size w w3 := by have z := B2.size; exact ((B2.alloc (by first | exact Nat.le_refl _ | (simp; done) | (simp; omega) | omega) _).alloc (by first | exact Nat.le_refl _ | (simp; done) | (simp; omega) | omega) _).trans (k3.mono (by first | exact Nat.le_refl _ | (simp; done) | (simp; omega) | omega))
    replace R_a := ((R_a.alloc _).alloc _).below k3
    replace R_b := ((R_b.alloc _).alloc _).below k3
    have R_m : Rat w3 (w2.heap.size) (0) (0) := ((Rat.new' (by simp)).alloc _).below k3
    clear k3 l_a c_a d_a l_b c_b d_b
    obtain ⟨l_a, c_a, d_a⟩ := id R_a
    obtain ⟨l_b, c_b, d_b⟩ := id R_b
    obtain ⟨l_m, c_m, d_m⟩ := id R_m
    go_wp2_with fail
    refine (ratio_Mul_is a1 a2 b1 b2 _ _ _ _ ha1 ha2 hb1 hb2 HP.out).mono ?_
    rintro e4 w4 ⟨rfl, k4⟩
    have B4 : Below w.heap.size w w4 := by have z := B3.size; exact (B3.alloc (by first | exact Nat.le_refl _ | (simp; done) | (simp; omega) | omega) _).trans (k4.mono (by first | exact Nat.le_refl _ | (simp; done) | (simp; omega) | omega))
    replace R_a := (R_a.alloc _).below k4
    replace R_b := (R_b.alloc _).below k4
    replace R_m := (R_m.alloc _).below k4
    have R_s : Rat w4 (w3.heap.size) (s1) (s2) := (Rat.new' (by simp)).below k4
    clear k4 l_a c_a d_a l_b c_b d_b l_m c_m d_m
    obtain ⟨l_a, c_a, d_a⟩ := id R_a
    obtain ⟨l_b, c_b, d_b⟩ := id R_b
    obtain ⟨l_m, c_m, d_m⟩ := id R_m
    obtain ⟨l_s, c_s, d_s⟩ := id R_s
    go_wp2_with fail
    refine (ratio_Div_is a1 a2 b1 b2 _ _ _ _ ha1 ha2 hb1 hb2 HQ.out).mono ?_
    rintro e5 w5 ⟨rfl, k5⟩
    have B5 : Below w.heap.size w w5 := by have z := B4.size; exact (B4.alloc (by first | exact Nat.le_refl _ | (simp; done) | (simp; omega) | omega) _).trans (k5.mono (by first | exact Nat.le_refl _ | (simp; done) | (simp; omega) | omega))
    replace R_a := (R_a.alloc _).below k5
    replace R_b := (R_b.alloc _).below k5
    replace R_m := (R_m.alloc _).below k5
    replace R_s := (R_s.alloc _).below k5
    have R_p : Rat w5 (w4.heap.size) (p1) (p2) := (Rat.new' (by simp)).below k5
    clear k5 l_a c_a d_a l_b c_b d_b l_m c_m d_m l_s c_s d_s
    obtain ⟨l_a, c_a, d_a⟩ := id R_a
    obtain ⟨l_b, c_b, d_b⟩ := id R_b
    obtain ⟨l_m, c_m, d_m⟩ := id R_m
    obtain ⟨l_s, c_s, d_s⟩ := id R_s
    obtain ⟨l_p, c_p, d_p⟩ := id R_p
    go_wp2_with fail
    refine (ratio_Minus_is a1 a2 b1 b2 _ _ _ _ ha1 ha2 hb1 hb2 HR.out).mono ?_
    rintro e6 w6 ⟨rfl, k6⟩
    have B6 : Below w.heap.size w w6 := by have z := B5.size; exact (B5.alloc (by first | exact Nat.le_refl _ | (simp; done) | (simp; omega) | omega) _).trans (k6.mono (by first | exact Nat.le_refl _ | (simp; done) | (simp; omega) | omega))
    replace R_a := (R_a.alloc _).below k6
    replace R_b := (R_b.alloc _).below k6
    replace R_m := (R_m.alloc _).below k6
    replace R_s := (R_s.alloc _).below k6
    replace R_p := (R_p.alloc _).below k6
    have R_q : Rat w6 (w5.heap.size) (q1) (q2) := (Rat.new' (by simp)).below k6
    clear k6 l_a c_a d_a l_b c_b d_b l_m c_m d_m l_s c_s d_s l_p c_p d_p
    obtain ⟨l_a, c_a, d_a⟩ := id R_a
    obtain ⟨l_b, c_b, d_b⟩ := id R_b
    obtain ⟨l_m, c_m, d_m⟩ := id R_m
    obtain ⟨l_s, c_s, d_s⟩ := id R_s
    obtain ⟨l_p, c_p, d_p⟩ := id R_p
    obtain ⟨l_q, c_q, d_q⟩ := id R_q
    go_wp2_with fail
    refine (ratio_Check_b s1 s2 _ ts1 ts2 ts _).mono ?_
    rintro e7 w7 ⟨rfl, k7⟩
    have B7 : Below w.heap.size w w7 := by have z := B6.size; exact (B6.alloc (by first | exact Nat.le_refl _ | (simp; done) | (simp; omega) | omega) _).trans (k7.mono (by first | exact Nat.le_refl _ | (simp; done) | (simp; omega) | omega))
    replace R_a := (R_a.alloc _).below k7
    replace R_b := (R_b.alloc _).below k7
    replace R_m := (R_m.alloc _).below k7
    replace R_s := (R_s.alloc _).below k7
    replace R_p := (R_p.alloc _).below k7
    replace R_q := (R_q.alloc _).below k7
    have R_r : Rat w7 (w6.heap.size) (r1) (r2) := (Rat.new' (by simp)).below k7
    clear k7 l_a c_a d_a l_b c_b d_b l_m c_m d_m l_s c_s d_s l_p c_p d_p l_q c_q d_q
    obtain ⟨l_a, c_a, d_a⟩ := id R_a
    obtain ⟨l_b, c_b, d_b⟩ := id R_b
    obtain ⟨l_m, c_m, d_m⟩ := id R_m
    obtain ⟨l_s, c_s, d_s⟩ := id R_s
    obtain ⟨l_p, c_p, d_p⟩ := id R_p
    obtain ⟨l_q, c_q, d_q⟩ := id R_q
    obtain ⟨l_r, c_r, d_r⟩ := id R_r
    go_wp2_with fail
    refine (ratio_Check_b p1 p2 _ tp1 tp2 tp _).mono ?_
    rintro e8 w8 ⟨rfl, k8⟩
    have B8 : Below w.heap.size w w8 := by have z := B7.size; exact B7.trans (k8.mono (by first | exact Nat.le_refl _ | (simp; done) | (simp; omega) | omega))
    replace R_a := R_a.below k8
    replace R_b := R_b.below k8
    replace R_m := R_m.below k8
    replace R_s := R_s.below k8
    replace R_p := R_p.below k8
    replace R_q := R_q.below k8
    replace R_r := R_r.below k8
    clear k8 l_a c_a d_a l_b c_b d_b l_m c_m d_m l_s c_s d_s l_p c_p d_p l_q c_q d_q l_r c_r d_r
    obtain ⟨l_a, c_a, d_a⟩ := id R_a
    obtain ⟨l_b, c_b, d_b⟩ := id R_b
    obtain ⟨l_m, c_m, d_m⟩ := id R_m
    obtain ⟨l_s, c_s, d_s⟩ := id R_s
    obtain ⟨l_p, c_p, d_p⟩ := id R_p
    obtain ⟨l_q, c_q, d_q⟩ := id R_q
    obtain ⟨l_r, c_r, d_r⟩ := id R_r
    go_wp2_with fail
    refine (ratio_Check_b q1 q2 _ tq1 tq2 tq _).mono ?_
    rintro e9 w9 ⟨rfl, k9⟩
    have B9 : Below w.heap.size w w9 := by have z := B8.size; exact B8.trans (k9.mono (by first | exact Nat.le_refl _ | (simp; done) | (simp; omega) | omega))
    replace R_a := R_a.below k9
    replace R_b := R_b.below k9
    replace R_m := R_m.below k9
    replace R_s := R_s.below k9
    replace R_p := R_p.below k9
    replace R_q := R_q.below k9
    replace R_r := R_r.below k9
    clear k9 l_a c_a d_a l_b c_b d_b l_m c_m d_m l_s c_s d_s l_p c_p d_p l_q c_q d_q l_r c_r d_r
    obtain ⟨l_a, c_a, d_a⟩ := id R_a
    obtain ⟨l_b, c_b, d_b⟩ := id R_b
    obtain ⟨l_m, c_m, d_m⟩ := id R_m
    obtain ⟨l_s, c_s, d_s⟩ := id R_s
    obtain ⟨l_p, c_p, d_p⟩ := id R_p
    obtain ⟨l_q, c_q, d_q⟩ := id R_q
    obtain ⟨l_r, c_r, d_r⟩ := id R_r
    go_wp2_with fail
    refine (ratio_Check_b r1 r2 _ tr1 tr2 tr _).mono ?_
    rintro e10 w10 ⟨rfl, k10⟩
    have B10 : Below w.heap.size w w10 := by have z := B9.size; exact B9.trans (k10.mono (by first | exact Nat.le_refl _ | (simp; done) | (simp; omega) | omega))
    replace R_a := R_a.below k10
    replace R_b := R_b.below k10
    replace R_m := R_m.below k10
    replace R_s := R_s.below k10
    replace R_p := R_p.below k10
    replace R_q := R_q.below k10
    replace R_r := R_r.below k10
    clear k10 l_a c_a d_a l_b c_b d_b l_m c_m d_m l_s c_s d_s l_p c_p d_p l_q c_q d_q l_r c_r d_r
    obtain ⟨l_a, c_a, d_a⟩ := id R_a
    obtain ⟨l_b, c_b, d_b⟩ := id R_b
    obtain ⟨l_m, c_m, d_m⟩ := id R_m
    obtain ⟨l_s, c_s, d_s⟩ := id R_s
    obtain ⟨l_p, c_p, d_p⟩ := id R_p
    obtain ⟨l_q, c_q, d_q⟩ := id R_q
    obtain ⟨l_r, c_r, d_r⟩ := id R_r
    go_wp2_with fail
    go_ret
    exact ⟨rfl, B10⟩
end Go.Proofs.Ytangogkmilpfiaa
