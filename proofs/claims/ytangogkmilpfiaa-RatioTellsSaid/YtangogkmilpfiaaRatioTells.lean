/- THE WALK of RatioTells: it returns true, and turns nothing that was there. -/
import Derived.Test.YtangogkmilpfiaaRatioUp
import Derived.Test.YtangogkmilpfiaaRef02Sum
namespace Go.Proofs.Ytangogkmilpfiaa
open Go.RowKit Lu

theorem ref2_Sum_is (a : Option Addr) (len cap : Nat) (rs : List (Int × Int)) (x y e : Int) (w : World) (h : Ratios w a len rs) (hs : sumRP rs = ((x, y), e)) :
    Calls Try.prog 32 #[.slice a len cap] w fun r w' => r = .returned (.tuple #[.agg #[.int .i64 x, .int .i64 y], .int .i64 e]) ∧ Below w.heap.size w w' := by
  have := ref2_Sum a len cap rs w h
  rwa [hs] at this
theorem ref2_Less_is (a1 a2 b1 b2 : Int) (r : Bool) (w : World) (ha1 : In a1) (ha2 : In a2) (hb1 : In b1) (hb2 : In b2) (h : lessP a1 a2 b1 b2 = r) :
    Calls Try.prog 40 #[.agg #[.int .i64 a1, .int .i64 a2], .agg #[.int .i64 b1, .int .i64 b2]] w fun e w' => e = .returned (.bool r) ∧ Below w.heap.size w w' := by
  have := ref2_Less a1 a2 b1 b2 w ha1 ha2 hb1 hb2
  rwa [h] at this
theorem ref2_Half_is (a1 a2 r : Int) (w : World) (ha1 : In a1) (ha2 : In a2) (h : halfRP a1 a2 = r) :
    Calls Try.prog 42 #[.agg #[.int .i64 a1, .int .i64 a2]] w fun e w' => e = .returned (.int .i64 r) ∧ Below w.heap.size w w' := by
  have := ref2_Half a1 a2 w ha1 ha2
  rwa [h] at this
theorem ratio_Check_is (n d : Int) (b : Bool) (hn : In n) (hd : In d) (h : Hid (b = decide (Ok n d))) (w : World) :
    Calls Try.prog 43 #[.agg #[.int .i64 n, .int .i64 d]] w fun e w' => e = .returned (.bool b) ∧ Below w.heap.size w w' := by
  rw [h.out]
  by_cases o : Ok n d
  · rw [decide_eq_true o]; exact ratio_Check_yes n d o w
  · rw [decide_eq_false o]; exact ratio_Check_no n d hn hd o w
theorem ref2_Check_is (n d : Int) (b : Bool) (hn : In n) (hd : In d) (h : Hid (b = decide (Ok n d))) (w : World) :
    Calls Try.prog 44 #[.agg #[.int .i64 n, .int .i64 d]] w fun e w' => e = .returned (.bool b) ∧ Below w.heap.size w w' := by
  rw [h.out]
  by_cases o : Ok n d
  · rw [decide_eq_true o]; exact ref2_Check_yes n d o w
  · rw [decide_eq_false o]; exact ref2_Check_no n d hn hd o w

theorem fin6 {w W v1 v2 v3 v4 v5 v6 : World} (B : Below w.heap.size w W) (k1 : Below W.drew.heap.size W.drew v1) (k2 : Below v1.heap.size v1 v2) (k3 : Below v2.heap.size v2 v3) (k4 : Below v3.heap.size v3 v4) (k5 : Below v4.heap.size v4 v5) (k6 : Below v5.heap.size v5 v6) : Below w.heap.size w v6 := by
  have c1 := B.drew.trans (k1.mono B.size)
  have c2 := c1.trans (k2.mono c1.size)
  have c3 := c2.trans (k3.mono c2.size)
  have c4 := c3.trans (k4.mono c3.size)
  have c5 := c4.trans (k5.mono c4.size)
  exact c5.trans (k6.mono c5.size)

set_option maxRecDepth 100000 in
set_option maxHeartbeats 4000000 in
theorem ratioTells_walk (a0 : Option Addr) (len0 cap0 : Nat) (z0 : List (Int × Int)) (a1 a2 b1 b2 n d : Int) (w : World) (h0 : Ratios w a0 len0 z0) (ha1 : In a1) (ha2 : In a2) (hb1 : In b1) (hb2 : In b2) (hn : In n) (hd : In d) :
    Calls Try.prog 9 #[.slice a0 len0 cap0, .agg #[.int .i64 a1, .int .i64 a2], .agg #[.int .i64 b1, .int .i64 b2], .int .i64 n, .int .i64 d] w fun e w' => e = .returned (.bool true) ∧ Below w.heap.size w w' := by
  have l0 := h0.2.1
  by_cases c0 : 1000 < len0
  · go_enter Try.func9, Try.ntmps9
    go_wp2_with fail
    refine (awake02 _).mono ?_
    rintro e w1 ⟨rfl, k1⟩
    have B1 : Below w.heap.size w w1 := by
      refine Below.trans ?_ (k1.mono (by simp <;> omega))
      go_grown
    clear k1
    go_wp2_with fail
    go_ret
    exact ⟨rfl, B1⟩
  have c0' : len0 ≤ 1000 := by omega
  obtain ⟨m1, m2, me, hm⟩ : ∃ x y e, mkP n d = ((x, y), e) := ⟨_, _, _, rfl⟩
  obtain ⟨s1, s2, se, hs⟩ : ∃ x y e, sumRP z0 = ((x, y), e) := ⟨_, _, _, rfl⟩
  obtain ⟨p1, p2, pe, hp⟩ : ∃ x y e, minusP a1 a2 b1 b2 = ((x, y), e) := ⟨_, _, _, rfl⟩
  obtain ⟨u1, u2, ue, hu⟩ : ∃ x y e, mulRP a1 a2 b1 b2 = ((x, y), e) := ⟨_, _, _, rfl⟩
  obtain ⟨r1, r2, re, hr⟩ : ∃ x y e, divRP a1 a2 b1 b2 = ((x, y), e) := ⟨_, _, _, rfl⟩
  obtain ⟨tl, hl⟩ : ∃ t, lessP a1 a2 b1 b2 = t := ⟨_, rfl⟩
  obtain ⟨th, hh⟩ : ∃ t, halfRP a1 a2 = t := ⟨_, rfl⟩
  obtain ⟨tc, hc⟩ : ∃ t, t = decide (Ok a1 a2) := ⟨_, rfl⟩
  have HM := Lib.hid hm
  have HS := Lib.hid hs
  have HP := Lib.hid hp
  have HU := Lib.hid hu
  have HW := Lib.hid hr
  have HL := Lib.hid hl
  have HH := Lib.hid hh
  have HC := Lib.hid hc
  clear hm hs hp hu hr hl hh hc
  go_enter Try.func9, Try.ntmps9
  go_wp2_with fail
  refine (awake02 _).mono ?_
  rintro e1 w1 ⟨rfl, k1⟩
  have B1 : Below w.heap.size w w1 := (((Below.refl _ _).alloc (by first | exact Nat.le_refl _ | (simp; done) | (simp; omega) | omega) _).alloc (by first | exact Nat.le_refl _ | (simp; done) | (simp; omega) | omega) _).trans (k1.mono (by first | exact Nat.le_refl _ | (simp; done) | (simp; omega) | omega))
  have R_a : Rat w1 (w.heap.size) (a1) (a2) := ((Rat.new' (by simp)).alloc _).below k1
  have R_b : Rat w1 (w.heap.size + 1) (b1) (b2) := (Rat.new' (by simp)).below k1
  clear k1
  obtain ⟨l_a, c_a, d_a⟩ := id R_a
  obtain ⟨l_b, c_b, d_b⟩ := id R_b
  go_wp2_with fail
  refine (ratio_Make_is n d m1 m2 me _ hn hd HM.out).mono ?_
  rintro e2 w2 ⟨rfl, k2⟩
  have B2 : Below w.heap.size w w2 := by have z := B1.size; exact B1.trans (k2.mono (by first | exact Nat.le_refl _ | (simp; done) | (simp; omega) | omega))
  replace R_a := R_a.below k2
  replace R_b := R_b.below k2
  clear k2 l_a c_a d_a l_b c_b d_b
  obtain ⟨l_a, c_a, d_a⟩ := id R_a
  obtain ⟨l_b, c_b, d_b⟩ := id R_b
  go_wp2_with fail
  refine (ref2_Make_is n d m1 m2 me _ hn hd HM.out).mono ?_
  rintro e3 w3 ⟨rfl, k3⟩
  have B3 : Below w.heap.size w w3 := by have z := B2.size; exact (B2.alloc (by first | exact Nat.le_refl _ | (simp; done) | (simp; omega) | omega) _).trans (k3.mono (by first | exact Nat.le_refl _ | (simp; done) | (simp; omega) | omega))
  replace R_a := (R_a.alloc _).below k3
  replace R_b := (R_b.alloc _).below k3
  have R_m : Rat w3 (w2.heap.size) (m1) (m2) := (Rat.new' (by simp)).below k3
  clear k3 l_a c_a d_a l_b c_b d_b
  obtain ⟨l_a, c_a, d_a⟩ := id R_a
  obtain ⟨l_b, c_b, d_b⟩ := id R_b
  obtain ⟨l_m, c_m, d_m⟩ := id R_m
  go_wp2_with fail
  refine (ratio_Sum_is a0 len0 cap0 z0 s1 s2 se _ ((h0.below B3).below (Below.alloc (Below.refl _ _) (Nat.le_refl _) _)) HS.out).mono ?_
  rintro e4 w4 ⟨rfl, k4⟩
  have B4 : Below w.heap.size w w4 := by have z := B3.size; exact (B3.alloc (by first | exact Nat.le_refl _ | (simp; done) | (simp; omega) | omega) _).trans (k4.mono (by first | exact Nat.le_refl _ | (simp; done) | (simp; omega) | omega))
  replace R_a := (R_a.alloc _).below k4
  replace R_b := (R_b.alloc _).below k4
  replace R_m := (R_m.alloc _).below k4
  have R_o : Rat w4 (w3.heap.size) (m1) (m2) := (Rat.new' (by simp)).below k4
  clear k4 l_a c_a d_a l_b c_b d_b l_m c_m d_m
  obtain ⟨l_a, c_a, d_a⟩ := id R_a
  obtain ⟨l_b, c_b, d_b⟩ := id R_b
  obtain ⟨l_m, c_m, d_m⟩ := id R_m
  obtain ⟨l_o, c_o, d_o⟩ := id R_o
  go_wp2_with fail
  refine (ref2_Sum_is a0 len0 cap0 z0 s1 s2 se _ ((h0.below B4).below (Below.alloc (Below.refl _ _) (Nat.le_refl _) _)) HS.out).mono ?_
  rintro e5 w5 ⟨rfl, k5⟩
  have B5 : Below w.heap.size w w5 := by have z := B4.size; exact (B4.alloc (by first | exact Nat.le_refl _ | (simp; done) | (simp; omega) | omega) _).trans (k5.mono (by first | exact Nat.le_refl _ | (simp; done) | (simp; omega) | omega))
  replace R_a := (R_a.alloc _).below k5
  replace R_b := (R_b.alloc _).below k5
  replace R_m := (R_m.alloc _).below k5
  replace R_o := (R_o.alloc _).below k5
  have R_s : Rat w5 (w4.heap.size) (s1) (s2) := (Rat.new' (by simp)).below k5
  clear k5 l_a c_a d_a l_b c_b d_b l_m c_m d_m l_o c_o d_o
  obtain ⟨l_a, c_a, d_a⟩ := id R_a
  obtain ⟨l_b, c_b, d_b⟩ := id R_b
  obtain ⟨l_m, c_m, d_m⟩ := id R_m
  obtain ⟨l_o, c_o, d_o⟩ := id R_o
  obtain ⟨l_s, c_s, d_s⟩ := id R_s
  go_wp2_with fail
  refine (ratio_Minus_is a1 a2 b1 b2 p1 p2 pe _ ha1 ha2 hb1 hb2 HP.out).mono ?_
  rintro e6 w6 ⟨rfl, k6⟩
  have B6 : Below w.heap.size w w6 := by have z := B5.size; exact (B5.alloc (by first | exact Nat.le_refl _ | (simp; done) | (simp; omega) | omega) _).trans (k6.mono (by first | exact Nat.le_refl _ | (simp; done) | (simp; omega) | omega))
  replace R_a := (R_a.alloc _).below k6
  replace R_b := (R_b.alloc _).below k6
  replace R_m := (R_m.alloc _).below k6
  replace R_o := (R_o.alloc _).below k6
  replace R_s := (R_s.alloc _).below k6
  have R_t : Rat w6 (w5.heap.size) (s1) (s2) := (Rat.new' (by simp)).below k6
  clear k6 l_a c_a d_a l_b c_b d_b l_m c_m d_m l_o c_o d_o l_s c_s d_s
  obtain ⟨l_a, c_a, d_a⟩ := id R_a
  obtain ⟨l_b, c_b, d_b⟩ := id R_b
  obtain ⟨l_m, c_m, d_m⟩ := id R_m
  obtain ⟨l_o, c_o, d_o⟩ := id R_o
  obtain ⟨l_s, c_s, d_s⟩ := id R_s
  obtain ⟨l_t, c_t, d_t⟩ := id R_t
  go_wp2_with fail
  refine (ref2_Minus_is a1 a2 b1 b2 p1 p2 pe _ ha1 ha2 hb1 hb2 HP.out).mono ?_
  rintro e7 w7 ⟨rfl, k7⟩
  have B7 : Below w.heap.size w w7 := by have z := B6.size; exact (B6.alloc (by first | exact Nat.le_refl _ | (simp; done) | (simp; omega) | omega) _).trans (k7.mono (by first | exact Nat.le_refl _ | (simp; done) | (simp; omega) | omega))
  replace R_a := (R_a.alloc _).below k7
  replace R_b := (R_b.alloc _).below k7
  replace R_m := (R_m.alloc _).below k7
  replace R_o := (R_o.alloc _).below k7
  replace R_s := (R_s.alloc _).below k7
  replace R_t := (R_t.alloc _).below k7
  have R_p : Rat w7 (w6.heap.size) (p1) (p2) := (Rat.new' (by simp)).below k7
  clear k7 l_a c_a d_a l_b c_b d_b l_m c_m d_m l_o c_o d_o l_s c_s d_s l_t c_t d_t
  obtain ⟨l_a, c_a, d_a⟩ := id R_a
  obtain ⟨l_b, c_b, d_b⟩ := id R_b
  obtain ⟨l_m, c_m, d_m⟩ := id R_m
  obtain ⟨l_o, c_o, d_o⟩ := id R_o
  obtain ⟨l_s, c_s, d_s⟩ := id R_s
  obtain ⟨l_t, c_t, d_t⟩ := id R_t
  obtain ⟨l_p, c_p, d_p⟩ := id R_p
  go_wp2_with fail
  refine (ratio_Mul_is a1 a2 b1 b2 u1 u2 ue _ ha1 ha2 hb1 hb2 HU.out).mono ?_
  rintro e8 w8 ⟨rfl, k8⟩
  have B8 : Below w.heap.size w w8 := by have z := B7.size; exact (B7.alloc (by first | exact Nat.le_refl _ | (simp; done) | (simp; omega) | omega) _).trans (k8.mono (by first | exact Nat.le_refl _ | (simp; done) | (simp; omega) | omega))
  replace R_a := (R_a.alloc _).below k8
  replace R_b := (R_b.alloc _).below k8
  replace R_m := (R_m.alloc _).below k8
  replace R_o := (R_o.alloc _).below k8
  replace R_s := (R_s.alloc _).below k8
  replace R_t := (R_t.alloc _).below k8
  replace R_p := (R_p.alloc _).below k8
  have R_q : Rat w8 (w7.heap.size) (p1) (p2) := (Rat.new' (by simp)).below k8
  clear k8 l_a c_a d_a l_b c_b d_b l_m c_m d_m l_o c_o d_o l_s c_s d_s l_t c_t d_t l_p c_p d_p
  obtain ⟨l_a, c_a, d_a⟩ := id R_a
  obtain ⟨l_b, c_b, d_b⟩ := id R_b
  obtain ⟨l_m, c_m, d_m⟩ := id R_m
  obtain ⟨l_o, c_o, d_o⟩ := id R_o
  obtain ⟨l_s, c_s, d_s⟩ := id R_s
  obtain ⟨l_t, c_t, d_t⟩ := id R_t
  obtain ⟨l_p, c_p, d_p⟩ := id R_p
  obtain ⟨l_q, c_q, d_q⟩ := id R_q
  go_wp2_with fail
  refine (ref2_Mul_is a1 a2 b1 b2 u1 u2 ue _ ha1 ha2 hb1 hb2 HU.out).mono ?_
  rintro e9 w9 ⟨rfl, k9⟩
  have B9 : Below w.heap.size w w9 := by have z := B8.size; exact (B8.alloc (by first | exact Nat.le_refl _ | (simp; done) | (simp; omega) | omega) _).trans (k9.mono (by first | exact Nat.le_refl _ | (simp; done) | (simp; omega) | omega))
  replace R_a := (R_a.alloc _).below k9
  replace R_b := (R_b.alloc _).below k9
  replace R_m := (R_m.alloc _).below k9
  replace R_o := (R_o.alloc _).below k9
  replace R_s := (R_s.alloc _).below k9
  replace R_t := (R_t.alloc _).below k9
  replace R_p := (R_p.alloc _).below k9
  replace R_q := (R_q.alloc _).below k9
  have R_u : Rat w9 (w8.heap.size) (u1) (u2) := (Rat.new' (by simp)).below k9
  clear k9 l_a c_a d_a l_b c_b d_b l_m c_m d_m l_o c_o d_o l_s c_s d_s l_t c_t d_t l_p c_p d_p l_q c_q d_q
  obtain ⟨l_a, c_a, d_a⟩ := id R_a
  obtain ⟨l_b, c_b, d_b⟩ := id R_b
  obtain ⟨l_m, c_m, d_m⟩ := id R_m
  obtain ⟨l_o, c_o, d_o⟩ := id R_o
  obtain ⟨l_s, c_s, d_s⟩ := id R_s
  obtain ⟨l_t, c_t, d_t⟩ := id R_t
  obtain ⟨l_p, c_p, d_p⟩ := id R_p
  obtain ⟨l_q, c_q, d_q⟩ := id R_q
  obtain ⟨l_u, c_u, d_u⟩ := id R_u
  go_wp2_with fail
  refine (ratio_Div_is a1 a2 b1 b2 r1 r2 re _ ha1 ha2 hb1 hb2 HW.out).mono ?_
  rintro e10 w10 ⟨rfl, k10⟩
  have B10 : Below w.heap.size w w10 := by have z := B9.size; exact (B9.alloc (by first | exact Nat.le_refl _ | (simp; done) | (simp; omega) | omega) _).trans (k10.mono (by first | exact Nat.le_refl _ | (simp; done) | (simp; omega) | omega))
  replace R_a := (R_a.alloc _).below k10
  replace R_b := (R_b.alloc _).below k10
  replace R_m := (R_m.alloc _).below k10
  replace R_o := (R_o.alloc _).below k10
  replace R_s := (R_s.alloc _).below k10
  replace R_t := (R_t.alloc _).below k10
  replace R_p := (R_p.alloc _).below k10
  replace R_q := (R_q.alloc _).below k10
  replace R_u := (R_u.alloc _).below k10
  have R_v : Rat w10 (w9.heap.size) (u1) (u2) := (Rat.new' (by simp)).below k10
  clear k10 l_a c_a d_a l_b c_b d_b l_m c_m d_m l_o c_o d_o l_s c_s d_s l_t c_t d_t l_p c_p d_p l_q c_q d_q l_u c_u d_u
  obtain ⟨l_a, c_a, d_a⟩ := id R_a
  obtain ⟨l_b, c_b, d_b⟩ := id R_b
  obtain ⟨l_m, c_m, d_m⟩ := id R_m
  obtain ⟨l_o, c_o, d_o⟩ := id R_o
  obtain ⟨l_s, c_s, d_s⟩ := id R_s
  obtain ⟨l_t, c_t, d_t⟩ := id R_t
  obtain ⟨l_p, c_p, d_p⟩ := id R_p
  obtain ⟨l_q, c_q, d_q⟩ := id R_q
  obtain ⟨l_u, c_u, d_u⟩ := id R_u
  obtain ⟨l_v, c_v, d_v⟩ := id R_v
  go_wp2_with fail
  refine (ref2_Div_is a1 a2 b1 b2 r1 r2 re _ ha1 ha2 hb1 hb2 HW.out).mono ?_
  rintro e11 w11 ⟨rfl, k11⟩
  have B11 : Below w.heap.size w w11 := by have z := B10.size; exact (B10.alloc (by first | exact Nat.le_refl _ | (simp; done) | (simp; omega) | omega) _).trans (k11.mono (by first | exact Nat.le_refl _ | (simp; done) | (simp; omega) | omega))
  replace R_a := (R_a.alloc _).below k11
  replace R_b := (R_b.alloc _).below k11
  replace R_m := (R_m.alloc _).below k11
  replace R_o := (R_o.alloc _).below k11
  replace R_s := (R_s.alloc _).below k11
  replace R_t := (R_t.alloc _).below k11
  replace R_p := (R_p.alloc _).below k11
  replace R_q := (R_q.alloc _).below k11
  replace R_u := (R_u.alloc _).below k11
  replace R_v := (R_v.alloc _).below k11
  have R_x : Rat w11 (w10.heap.size) (r1) (r2) := (Rat.new' (by simp)).below k11
  clear k11 l_a c_a d_a l_b c_b d_b l_m c_m d_m l_o c_o d_o l_s c_s d_s l_t c_t d_t l_p c_p d_p l_q c_q d_q l_u c_u d_u l_v c_v d_v
  obtain ⟨l_a, c_a, d_a⟩ := id R_a
  obtain ⟨l_b, c_b, d_b⟩ := id R_b
  obtain ⟨l_m, c_m, d_m⟩ := id R_m
  obtain ⟨l_o, c_o, d_o⟩ := id R_o
  obtain ⟨l_s, c_s, d_s⟩ := id R_s
  obtain ⟨l_t, c_t, d_t⟩ := id R_t
  obtain ⟨l_p, c_p, d_p⟩ := id R_p
  obtain ⟨l_q, c_q, d_q⟩ := id R_q
  obtain ⟨l_u, c_u, d_u⟩ := id R_u
  obtain ⟨l_v, c_v, d_v⟩ := id R_v
  obtain ⟨l_x, c_x, d_x⟩ := id R_x
  go_wp2_with fail
  have Q_u := R_u.alloc (.cells #[.int .i64 r1, .int .i64 r2] 37)
  have Q_v := R_v.alloc (.cells #[.int .i64 r1, .int .i64 r2] 37)
  have Q_x := R_x.alloc (.cells #[.int .i64 r1, .int .i64 r2] 37)
  have Q_a := R_a.alloc (.cells #[.int .i64 r1, .int .i64 r2] 37)
  have Q_b := R_b.alloc (.cells #[.int .i64 r1, .int .i64 r2] 37)
  have Q_y : Rat (w11.alloc (.cells #[.int .i64 r1, .int .i64 r2] 37)) w11.heap.size r1 r2 := Rat.new' rfl
  have B : Below w.heap.size w (w11.alloc (.cells #[.int .i64 r1, .int .i64 r2] 37)) := B11.alloc B11.size _
  clear l_a c_a d_a l_b c_b d_b l_m c_m d_m l_o c_o d_o l_s c_s d_s l_t c_t d_t l_p c_p d_p l_q c_q d_q l_u c_u d_u l_v c_v d_v l_x c_x d_x R_a R_b R_m R_o R_s R_t R_p R_q R_u R_v R_x
  go_region_held3 (fun w' => w'.cell? ⟨w8.heap.size, 0, none⟩ = some (.int .i64 u1) ∧ w'.cell? ⟨w8.heap.size, 1, none⟩ = some (.int .i64 u2) ∧ w'.cell? ⟨w9.heap.size, 0, none⟩ = some (.int .i64 u1) ∧ w'.cell? ⟨w9.heap.size, 1, none⟩ = some (.int .i64 u2) ∧ w'.cell? ⟨w10.heap.size, 0, none⟩ = some (.int .i64 r1) ∧ w'.cell? ⟨w10.heap.size, 1, none⟩ = some (.int .i64 r2) ∧ w'.cell? ⟨w.heap.size, 0, none⟩ = some (.int .i64 a1) ∧ w'.cell? ⟨w.heap.size, 1, none⟩ = some (.int .i64 a2) ∧ w'.cell? ⟨w.heap.size + 1, 0, none⟩ = some (.int .i64 b1) ∧ w'.cell? ⟨w.heap.size + 1, 1, none⟩ = some (.int .i64 b2) ∧ w'.cell? ⟨w11.heap.size, 0, none⟩ = some (.int .i64 r1) ∧ w'.cell? ⟨w11.heap.size, 1, none⟩ = some (.int .i64 r2))
    (first | exact ⟨Q_u.c0, Q_u.c1, Q_v.c0, Q_v.c1, Q_x.c0, Q_x.c1, Q_a.c0, Q_a.c1, Q_b.c0, Q_b.c1, Q_y.c0, Q_y.c1⟩ | exact ⟨keepD k1 Q_u.c0, keepD k1 Q_u.c1, keepD k1 Q_v.c0, keepD k1 Q_v.c1, keepD k1 Q_x.c0, keepD k1 Q_x.c1, keepD k1 Q_a.c0, keepD k1 Q_a.c1, keepD k1 Q_b.c0, keepD k1 Q_b.c1, keepD k1 Q_y.c0, keepD k1 Q_y.c1⟩ | exact ⟨keepD k2 (keepD k1 Q_u.c0), keepD k2 (keepD k1 Q_u.c1), keepD k2 (keepD k1 Q_v.c0), keepD k2 (keepD k1 Q_v.c1), keepD k2 (keepD k1 Q_x.c0), keepD k2 (keepD k1 Q_x.c1), keepD k2 (keepD k1 Q_a.c0), keepD k2 (keepD k1 Q_a.c1), keepD k2 (keepD k1 Q_b.c0), keepD k2 (keepD k1 Q_b.c1), keepD k2 (keepD k1 Q_y.c0), keepD k2 (keepD k1 Q_y.c1)⟩ | exact ⟨keepD k3 (keepD k2 (keepD k1 Q_u.c0)), keepD k3 (keepD k2 (keepD k1 Q_u.c1)), keepD k3 (keepD k2 (keepD k1 Q_v.c0)), keepD k3 (keepD k2 (keepD k1 Q_v.c1)), keepD k3 (keepD k2 (keepD k1 Q_x.c0)), keepD k3 (keepD k2 (keepD k1 Q_x.c1)), keepD k3 (keepD k2 (keepD k1 Q_a.c0)), keepD k3 (keepD k2 (keepD k1 Q_a.c1)), keepD k3 (keepD k2 (keepD k1 Q_b.c0)), keepD k3 (keepD k2 (keepD k1 Q_b.c1)), keepD k3 (keepD k2 (keepD k1 Q_y.c0)), keepD k3 (keepD k2 (keepD k1 Q_y.c1))⟩ | exact ⟨keepD k4 (keepD k3 (keepD k2 (keepD k1 Q_u.c0))), keepD k4 (keepD k3 (keepD k2 (keepD k1 Q_u.c1))), keepD k4 (keepD k3 (keepD k2 (keepD k1 Q_v.c0))), keepD k4 (keepD k3 (keepD k2 (keepD k1 Q_v.c1))), keepD k4 (keepD k3 (keepD k2 (keepD k1 Q_x.c0))), keepD k4 (keepD k3 (keepD k2 (keepD k1 Q_x.c1))), keepD k4 (keepD k3 (keepD k2 (keepD k1 Q_a.c0))), keepD k4 (keepD k3 (keepD k2 (keepD k1 Q_a.c1))), keepD k4 (keepD k3 (keepD k2 (keepD k1 Q_b.c0))), keepD k4 (keepD k3 (keepD k2 (keepD k1 Q_b.c1))), keepD k4 (keepD k3 (keepD k2 (keepD k1 Q_y.c0))), keepD k4 (keepD k3 (keepD k2 (keepD k1 Q_y.c1)))⟩ | exact ⟨keepD k5 (keepD k4 (keepD k3 (keepD k2 (keepD k1 Q_u.c0)))), keepD k5 (keepD k4 (keepD k3 (keepD k2 (keepD k1 Q_u.c1)))), keepD k5 (keepD k4 (keepD k3 (keepD k2 (keepD k1 Q_v.c0)))), keepD k5 (keepD k4 (keepD k3 (keepD k2 (keepD k1 Q_v.c1)))), keepD k5 (keepD k4 (keepD k3 (keepD k2 (keepD k1 Q_x.c0)))), keepD k5 (keepD k4 (keepD k3 (keepD k2 (keepD k1 Q_x.c1)))), keepD k5 (keepD k4 (keepD k3 (keepD k2 (keepD k1 Q_a.c0)))), keepD k5 (keepD k4 (keepD k3 (keepD k2 (keepD k1 Q_a.c1)))), keepD k5 (keepD k4 (keepD k3 (keepD k2 (keepD k1 Q_b.c0)))), keepD k5 (keepD k4 (keepD k3 (keepD k2 (keepD k1 Q_b.c1)))), keepD k5 (keepD k4 (keepD k3 (keepD k2 (keepD k1 Q_y.c0)))), keepD k5 (keepD k4 (keepD k3 (keepD k2 (keepD k1 Q_y.c1))))⟩ | exact ⟨keepD k6 (keepD k5 (keepD k4 (keepD k3 (keepD k2 (keepD k1 Q_u.c0))))), keepD k6 (keepD k5 (keepD k4 (keepD k3 (keepD k2 (keepD k1 Q_u.c1))))), keepD k6 (keepD k5 (keepD k4 (keepD k3 (keepD k2 (keepD k1 Q_v.c0))))), keepD k6 (keepD k5 (keepD k4 (keepD k3 (keepD k2 (keepD k1 Q_v.c1))))), keepD k6 (keepD k5 (keepD k4 (keepD k3 (keepD k2 (keepD k1 Q_x.c0))))), keepD k6 (keepD k5 (keepD k4 (keepD k3 (keepD k2 (keepD k1 Q_x.c1))))), keepD k6 (keepD k5 (keepD k4 (keepD k3 (keepD k2 (keepD k1 Q_a.c0))))), keepD k6 (keepD k5 (keepD k4 (keepD k3 (keepD k2 (keepD k1 Q_a.c1))))), keepD k6 (keepD k5 (keepD k4 (keepD k3 (keepD k2 (keepD k1 Q_b.c0))))), keepD k6 (keepD k5 (keepD k4 (keepD k3 (keepD k2 (keepD k1 Q_b.c1))))), keepD k6 (keepD k5 (keepD k4 (keepD k3 (keepD k2 (keepD k1 Q_y.c0))))), keepD k6 (keepD k5 (keepD k4 (keepD k3 (keepD k2 (keepD k1 Q_y.c1)))))⟩)
    (first
      | (go_at_call 39; (with_reducible refine (ratio_Less_is a1 a2 b1 b2 tl _ ha1 ha2 hb1 hb2 HL.out).mono ?_); rintro e v1 ⟨rfl, k1⟩)
      | (go_at_call 40; (with_reducible refine (ref2_Less_is a1 a2 b1 b2 tl _ ha1 ha2 hb1 hb2 HL.out).mono ?_); rintro e v2 ⟨rfl, k2⟩)
      | (go_at_call 41; (with_reducible refine (ratio_Half_is a1 a2 th _ ha1 ha2 HH.out).mono ?_); rintro e v3 ⟨rfl, k3⟩)
      | (go_at_call 42; (with_reducible refine (ref2_Half_is a1 a2 th _ ha1 ha2 HH.out).mono ?_); rintro e v4 ⟨rfl, k4⟩)
      | (go_at_call 43; (with_reducible refine (ratio_Check_is a1 a2 tc ha1 ha2 HC _).mono ?_); rintro e v5 ⟨rfl, k5⟩)
      | (go_at_call 44; (with_reducible refine (ref2_Check_is a1 a2 tc ha1 ha2 HC _).mono ?_); rintro e v6 ⟨rfl, k6⟩))
  go_wp2
  go_ret
  exact ⟨rfl, fin6 B k1 k2 k3 k4 k5 k6⟩
end Go.Proofs.Ytangogkmilpfiaa
