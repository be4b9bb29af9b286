/- THE WALKS of layer 2's reference (lumperref02): each function, once: it comes to what ratio comes to. -/
import Derived.Test.YtnjckaifgmliaaaRat
import Derived.Test.YtnjckaifgmliaaaRefGcd
import Derived.Test.YtnjckaifgmliaaaPlainRatio2
set_option linter.unusedSimpArgs false
set_option linter.unusedVariables false
namespace Go.Proofs.Ytnjckaifgmliaaa
open Go.RowKit Lu

/-- lumperref02.Check. -/
theorem ref2_Check_yes (n d : Int) (h : Ok n d) (w : World) :
    Calls Try.prog 91 #[.agg #[.int .i64 n, .int .i64 d]] w fun e w' => e = .returned (.bool true) ∧ Below w.heap.size w w' := by
  have hg := ref_Gcd n d h.in1 h.in2
  rw [Ok_gcd h] at hg
  have HG := Lib.hid hg
  obtain ⟨h1, h2, h3, h4, h5⟩ := h
  clear hg h5
  go_enter Try.func91, Try.ntmps91
  go_wp2_with fail
  refine (HG.out _).mono ?_
  rintro e w1 ⟨rfl, rfl⟩
  go_wp2_with fail
  go_ret
  exact ⟨rfl, by go_grown⟩
theorem ref2_Check_no (n d : Int) (hn : In n) (hd : In d) (h : ¬ Ok n d) (w : World) :
    Calls Try.prog 91 #[.agg #[.int .i64 n, .int .i64 d]] w fun e w' => e = .returned (.bool false) ∧ Below w.heap.size w w' := by
  by_cases c1 : -2147483647 ≤ n
  · by_cases c2 : n ≤ 2147483647
    · by_cases c3 : 1 ≤ d
      · by_cases c4 : d ≤ 2147483647
        · have hg := ref_Gcd n d hn hd
          have ng : (gcdP n d == 1) = false := by
            rw [beq_eq_false_iff_ne]
            intro e
            apply h
            refine ⟨c1, c2, c3, c4, ?_⟩
            unfold gcdP at e
            rw [sideN_small (by omega), sideN_small (by omega)] at e
            omega
          generalize gcdP n d = g at *
          have HG := Lib.hid hg
          clear hg
          go_enter Try.func91, Try.ntmps91
          go_wp2_with fail
          refine (HG.out _).mono ?_
          rintro e w1 ⟨rfl, rfl⟩
          go_wp2_with fail
          go_ret
          exact ⟨rfl, by go_grown⟩
        · have c4' : 2147483647 < d := by omega
          have d4 : decide (d ≤ 2147483647) = false := by simp; omega
          go_enter Try.func91, Try.ntmps91
          go_wp2_with fail
          go_ret
          exact ⟨rfl, by go_grown⟩
      · have c3' : d < 1 := by omega
        have d3 : decide (1 ≤ d) = false := by simp; omega
        go_enter Try.func91, Try.ntmps91
        go_wp2_with fail
        go_ret
        exact ⟨rfl, by go_grown⟩
    · have c2' : 2147483647 < n := by omega
      have d2 : decide (n ≤ 2147483647) = false := by simp; omega
      go_enter Try.func91, Try.ntmps91
      go_wp2_with fail
      go_ret
      exact ⟨rfl, by go_grown⟩
  · have c1' : n < -2147483647 := by omega
    have d1 : decide (-2147483647 ≤ n) = false := by simp; omega
    go_enter Try.func91, Try.ntmps91
    go_wp2_with fail
    go_ret
    exact ⟨rfl, by go_grown⟩

theorem ref2_Check_b (n d : Int) (hn : In n) (hd : In d) (w : World) :
    Calls Try.prog 91 #[.agg #[.int .i64 n, .int .i64 d]] w fun e w' => ∃ b, e = .returned (.bool b) ∧ Below w.heap.size w w' := by
  by_cases o : Ok n d
  · exact (ref2_Check_yes n d o w).mono fun e w' h => ⟨true, h⟩
  · exact (ref2_Check_no n d hn hd o w).mono fun e w' h => ⟨false, h⟩

set_option maxHeartbeats 1000000 in
/-- lumperref02.Make. -/
theorem ref2_Make (n d : Int) (hn : In n) (hd : In d) (w : World) :
    Calls Try.prog 64 #[.int .i64 n, .int .i64 d] w fun e w' => e = .returned (.tuple #[.agg #[.int .i64 (mkP n d).1.1, .int .i64 (mkP n d).1.2], .int .i64 (mkP n d).2]) ∧ Below w.heap.size w w' := by
  by_cases c : d < 1
  · rw [mkP_zero (by omega)]
    go_enter Try.func64, Try.ntmps64
    go_wp2_with fail
    go_returns
    exact ⟨rfl, by go_grown⟩
  have hg := gcdP_pos (n := n) (d := d) (by omega) hd
  have hgr := gcdP_range hn hd
  have hq := tdiv_pos_range hn hg
  have hr := ediv_range hd hg
  have hdv := Int.mul_ediv_cancel' (gcdP_dvd_right (n := n) (d := d) (by omega))
  have res : (¬ Ok (n.tdiv (gcdP n d)) (d / gcdP n d) ∧ mkP n d = ((0, 0), 10)) ∨ (Ok (n.tdiv (gcdP n d)) (d / gcdP n d) ∧ mkP n d = ((n.tdiv (gcdP n d), d / gcdP n d), 0)) := by
    by_cases n0 : n = 0
    · subst n0
      have e1 : gcdP 0 d = d := by
        unfold gcdP
        rw [sideN_small (by decide), sideN_small (by omega)]
        simp
        omega
      have e2 : d / d = 1 := Int.ediv_self (by omega)
      rw [e1, Int.zero_tdiv, e2, mkP_none (by omega)]
      exact Or.inr ⟨by decide, rfl⟩
    · by_cases c1 : 2147483647 < n.tdiv (gcdP n d) ∨ n.tdiv (gcdP n d) < -2147483647 ∨ 2147483647 < d / gcdP n d
      · exact Or.inl ⟨fun o => by have := o.num; have := o.den; omega, mkP_over (by omega) n0 c1⟩
      · have hm := mkP_in (by omega) n0 c1
        exact Or.inr ⟨(mkP_is_ok hn hd hm).1, hm⟩
  have hgcd := ref_Gcd n d hn hd
  have HG := Lib.hid hgcd
  clear hgcd hdv
  have hgr' := hgr
  have hq' := hq
  have hr' := hr
  unfold In at hgr' hq' hr'
  generalize gcdP n d = g at *
  have wq : IntKind.i64.wrap (n.tdiv g) = n.tdiv g := IntWalk.i64_in _ hq'
  have wr : IntKind.i64.wrap (d.tdiv g) = d / g := by
    rw [Int.tdiv_eq_ediv_of_nonneg (by omega)]
    exact IntWalk.i64_in _ hr'
  have wq2 : wrap64 (n.tdiv g) = n.tdiv g := wrap64_In hq
  rcases res with ⟨ro, rv⟩ | ⟨ro, rv⟩
  all_goals
    rw [rv]
    clear rv hq'
    go_enter Try.func64, Try.ntmps64
    go_wp2_with fail
    refine (HG.out _).mono ?_
    rintro e w1 ⟨rfl, rfl⟩
    go_wp2_with fail
    go_region
    go_wp2_with fail
    first
    | refine (ref2_Check_no _ _ hq hr ro _).mono ?_
    | refine (ref2_Check_yes _ _ ro _).mono ?_
    rintro e w2 ⟨rfl, k⟩
    have c_r : w2.cell? ⟨w.heap.size, 0, none⟩ = some (.int .i64 0) := keepC k (by simp [go_sem]) (by simp <;> omega)
    have d_r : w2.cell? ⟨w.heap.size, 1, none⟩ = some (.int .i64 0) := keepC k (by simp [go_sem]) (by simp <;> omega)
    have f_r : w2.frozen? ⟨w.heap.size, 0, none⟩ = false := keepF k (by simp [go_sem]) (by simp <;> omega)
    have g_r : w2.frozen? ⟨w.heap.size, 1, none⟩ = false := keepF k (by simp [go_sem]) (by simp <;> omega)
    have c_s : w2.cell? ⟨w.heap.size + 1, 0, none⟩ = some (.int .i64 (n.tdiv g)) := keepC k (by simp [go_sem]) (by simp <;> omega)
    have d_s : w2.cell? ⟨w.heap.size + 1, 1, none⟩ = some (.int .i64 (d / g)) := keepC k (by simp [go_sem]) (by simp <;> omega)
    have B : Below w.heap.size w w2 := by
      refine Below.trans ?_ (k.mono (by simp <;> omega))
      go_grown
    clear k
    go_wp2_with fail
    first
    | (refine bodyPost_ret (v := .tuple #[.agg #[.int .i64 0, .int .i64 0], .int .i64 10]) (by simp [results, Try.results64, go_sem, c_r, d_r]) rfl ⟨rfl, ?_⟩; go_grown)
    | (refine bodyPost_ret (v := .tuple #[.agg #[.int .i64 (n.tdiv g), .int .i64 (d / g)], .int .i64 0]) (by simp [results, Try.results64, go_sem, c_r, d_r]) rfl ⟨rfl, ?_⟩; go_grown)
theorem ref2_Make_is (n d x y e : Int) (w : World) (hn : In n) (hd : In d) (h : mkP n d = ((x, y), e)) :
    Calls Try.prog 64 #[.int .i64 n, .int .i64 d] w fun r w' => r = .returned (.tuple #[.agg #[.int .i64 x, .int .i64 y], .int .i64 e]) ∧ Below w.heap.size w w' := by
  have := ref2_Make n d hn hd w
  rwa [h] at this


set_option maxHeartbeats 1000000 in
/-- lumperref02.Minus. -/
theorem ref2_Minus_is (a1 a2 b1 b2 u v e : Int) (w : World) (ha1 : In a1) (ha2 : In a2) (hb1 : In b1) (hb2 : In b2) (h : minusP a1 a2 b1 b2 = ((u, v), e)) :
    Calls Try.prog 99 #[.agg #[.int .i64 a1, .int .i64 a2], .agg #[.int .i64 b1, .int .i64 b2]] w fun r w' => r = .returned (.tuple #[.agg #[.int .i64 u, .int .i64 v], .int .i64 e]) ∧ Below w.heap.size w w' := by
  have H := Lib.hid h
  clear h
  by_cases oa : Ok a1 a2
  by_cases ob : Ok b1 b2
  · have hin := minus_in oa ob
    have p0 := prod31 oa.num ob.den
    have p1 := prod31 ob.num oa.den
    have p2 := prod31 oa.den ob.den
    have HT := Lib.hid (show mkP (a1 * b2 - b1 * a2) (a2 * b2) = ((u, v), e) by rw [← H.out]; unfold minusP; rw [twoP_ok oa ob])
    go_enter Try.func99, Try.ntmps99
    go_wp2_with fail
    refine (ref2_Check_yes a1 a2 oa _).mono ?_
    rintro e1 w1 ⟨rfl, k1⟩
    have B1 : Below w.heap.size w w1 := ((((Below.refl _ _).alloc (by first | exact Nat.le_refl _ | (simp; done) | (simp; omega) | omega) _).alloc (by first | exact Nat.le_refl _ | (simp; done) | (simp; omega) | omega) _).alloc (by first | exact Nat.le_refl _ | (simp; done) | (simp; omega) | omega) _).trans (k1.mono (by first | exact Nat.le_refl _ | (simp; done) | (simp; omega) | omega))
    have R_a : Rat w1 (w.heap.size) (a1) (a2) := (((Rat.new' (by simp)).alloc _).alloc _).below k1
    have R_b : Rat w1 (w.heap.size + 1) (b1) (b2) := ((Rat.new' (by simp)).alloc _).below k1
    have R_r : Own w1 (w.heap.size + 1 + 1) (0) (0) := (Own.new' (by simp)).below k1
    clear k1
    obtain ⟨l_a, c_a, d_a⟩ := id R_a
    obtain ⟨l_b, c_b, d_b⟩ := id R_b
    obtain ⟨l_r, c_r, d_r, f_r, g_r⟩ := id R_r
    go_wp2_with fail
    refine (ref2_Check_yes b1 b2 ob _).mono ?_
    rintro e2 w2 ⟨rfl, k2⟩
    have B2 : Below w.heap.size w w2 := by have z := B1.size; exact B1.trans (k2.mono (by first | exact Nat.le_refl _ | (simp; done) | (simp; omega) | omega))
    replace R_a := R_a.below k2
    replace R_b := R_b.below k2
    replace R_r := R_r.below k2
    clear k2 l_a c_a d_a l_b c_b d_b l_r c_r d_r f_r g_r
    obtain ⟨l_a, c_a, d_a⟩ := id R_a
    obtain ⟨l_b, c_b, d_b⟩ := id R_b
    obtain ⟨l_r, c_r, d_r, f_r, g_r⟩ := id R_r
    go_wp2_with fail
    refine (ref2_Make_is (a1 * b2 - b1 * a2) (a2 * b2) u v e _ hin.1 hin.2 HT.out).mono ?_
    rintro e3 w3 ⟨rfl, k3⟩
    have B3 : Below w.heap.size w w3 := by have z := B2.size; exact B2.trans (k3.mono (by first | exact Nat.le_refl _ | (simp; done) | (simp; omega) | omega))
    replace R_a := R_a.below k3
    replace R_b := R_b.below k3
    replace R_r := R_r.below k3
    clear k3 l_a c_a d_a l_b c_b d_b l_r c_r d_r f_r g_r
    obtain ⟨l_a, c_a, d_a⟩ := id R_a
    obtain ⟨l_b, c_b, d_b⟩ := id R_b
    obtain ⟨l_r, c_r, d_r, f_r, g_r⟩ := id R_r
    go_wp2_with fail
    refine bodyPost_ret (v := .tuple #[.agg #[.int .i64 u, .int .i64 v], .int .i64 e]) (by simp [results, Try.results99, go_sem, c_r, d_r]) rfl ⟨rfl, by have z := B3.size; go_grown⟩
  · have hv := H.out
    unfold minusP at hv
    rw [twoP_no (fun h => ob h.2)] at hv
    cases hv
    clear H
    go_enter Try.func99, Try.ntmps99
    go_wp2_with fail
    refine (ref2_Check_yes a1 a2 oa _).mono ?_
    rintro e1 w1 ⟨rfl, k1⟩
    have B1 : Below w.heap.size w w1 := ((((Below.refl _ _).alloc (by first | exact Nat.le_refl _ | (simp; done) | (simp; omega) | omega) _).alloc (by first | exact Nat.le_refl _ | (simp; done) | (simp; omega) | omega) _).alloc (by first | exact Nat.le_refl _ | (simp; done) | (simp; omega) | omega) _).trans (k1.mono (by first | exact Nat.le_refl _ | (simp; done) | (simp; omega) | omega))
    have R_a : Rat w1 (w.heap.size) (a1) (a2) := (((Rat.new' (by simp)).alloc _).alloc _).below k1
    have R_b : Rat w1 (w.heap.size + 1) (b1) (b2) := ((Rat.new' (by simp)).alloc _).below k1
    have R_r : Own w1 (w.heap.size + 1 + 1) (0) (0) := (Own.new' (by simp)).below k1
    clear k1
    obtain ⟨l_a, c_a, d_a⟩ := id R_a
    obtain ⟨l_b, c_b, d_b⟩ := id R_b
    obtain ⟨l_r, c_r, d_r, f_r, g_r⟩ := id R_r
    go_wp2_with fail
    refine (ref2_Check_no b1 b2 hb1 hb2 ob _).mono ?_
    rintro e2 w2 ⟨rfl, k2⟩
    have B2 : Below w.heap.size w w2 := by have z := B1.size; exact B1.trans (k2.mono (by first | exact Nat.le_refl _ | (simp; done) | (simp; omega) | omega))
    replace R_a := R_a.below k2
    replace R_b := R_b.below k2
    replace R_r := R_r.below k2
    clear k2 l_a c_a d_a l_b c_b d_b l_r c_r d_r f_r g_r
    obtain ⟨l_a, c_a, d_a⟩ := id R_a
    obtain ⟨l_b, c_b, d_b⟩ := id R_b
    obtain ⟨l_r, c_r, d_r, f_r, g_r⟩ := id R_r
    go_wp2_with fail
    refine bodyPost_ret (v := .tuple #[.agg #[.int .i64 0, .int .i64 0], .int .i64 20]) (by simp [results, Try.results99, go_sem, c_r, d_r]) rfl ⟨rfl, by have z := B2.size; go_grown⟩
  · have hv := H.out
    unfold minusP at hv
    rw [twoP_no (fun h => oa h.1)] at hv
    cases hv
    clear H
    go_enter Try.func99, Try.ntmps99
    go_wp2_with fail
    refine (ref2_Check_no a1 a2 ha1 ha2 oa _).mono ?_
    rintro e1 w1 ⟨rfl, k1⟩
    have B1 : Below w.heap.size w w1 := ((((Below.refl _ _).alloc (by first | exact Nat.le_refl _ | (simp; done) | (simp; omega) | omega) _).alloc (by first | exact Nat.le_refl _ | (simp; done) | (simp; omega) | omega) _).alloc (by first | exact Nat.le_refl _ | (simp; done) | (simp; omega) | omega) _).trans (k1.mono (by first | exact Nat.le_refl _ | (simp; done) | (simp; omega) | omega))
    have R_a : Rat w1 (w.heap.size) (a1) (a2) := (((Rat.new' (by simp)).alloc _).alloc _).below k1
    have R_b : Rat w1 (w.heap.size + 1) (b1) (b2) := ((Rat.new' (by simp)).alloc _).below k1
    have R_r : Own w1 (w.heap.size + 1 + 1) (0) (0) := (Own.new' (by simp)).below k1
    clear k1
    obtain ⟨l_a, c_a, d_a⟩ := id R_a
    obtain ⟨l_b, c_b, d_b⟩ := id R_b
    obtain ⟨l_r, c_r, d_r, f_r, g_r⟩ := id R_r
    go_wp2_with fail
    refine ((ref2_Check_b b1 b2 hb1 hb2 _)).mono ?_
    rintro e2 w2 ⟨cb, rfl, k2⟩
    have B2 : Below w.heap.size w w2 := by have z := B1.size; exact B1.trans (k2.mono (by first | exact Nat.le_refl _ | (simp; done) | (simp; omega) | omega))
    replace R_a := R_a.below k2
    replace R_b := R_b.below k2
    replace R_r := R_r.below k2
    clear k2 l_a c_a d_a l_b c_b d_b l_r c_r d_r f_r g_r
    obtain ⟨l_a, c_a, d_a⟩ := id R_a
    obtain ⟨l_b, c_b, d_b⟩ := id R_b
    obtain ⟨l_r, c_r, d_r, f_r, g_r⟩ := id R_r
    go_wp2_with fail
    refine bodyPost_ret (v := .tuple #[.agg #[.int .i64 0, .int .i64 0], .int .i64 20]) (by simp [results, Try.results99, go_sem, c_r, d_r]) rfl ⟨rfl, by have z := B2.size; go_grown⟩


set_option maxHeartbeats 1000000 in
/-- lumperref02.Mul. -/
theorem ref2_Mul_is (a1 a2 b1 b2 u v e : Int) (w : World) (ha1 : In a1) (ha2 : In a2) (hb1 : In b1) (hb2 : In b2) (h : mulRP a1 a2 b1 b2 = ((u, v), e)) :
    Calls Try.prog 61 #[.agg #[.int .i64 a1, .int .i64 a2], .agg #[.int .i64 b1, .int .i64 b2]] w fun r w' => r = .returned (.tuple #[.agg #[.int .i64 u, .int .i64 v], .int .i64 e]) ∧ Below w.heap.size w w' := by
  have H := Lib.hid h
  clear h
  by_cases oa : Ok a1 a2
  by_cases ob : Ok b1 b2
  · have hin := mul_in oa ob
    have p0 := prod31 oa.num ob.num
    have p1 := prod31 oa.den ob.den
    have HT := Lib.hid (show mkP (a1 * b1) (a2 * b2) = ((u, v), e) by rw [← H.out]; unfold mulRP; rw [twoP_ok oa ob])
    go_enter Try.func61, Try.ntmps61
    go_wp2_with fail
    refine (ref2_Check_yes a1 a2 oa _).mono ?_
    rintro e1 w1 ⟨rfl, k1⟩
    have B1 : Below w.heap.size w w1 := ((((Below.refl _ _).alloc (by first | exact Nat.le_refl _ | (simp; done) | (simp; omega) | omega) _).alloc (by first | exact Nat.le_refl _ | (simp; done) | (simp; omega) | omega) _).alloc (by first | exact Nat.le_refl _ | (simp; done) | (simp; omega) | omega) _).trans (k1.mono (by first | exact Nat.le_refl _ | (simp; done) | (simp; omega) | omega))
    have R_a : Rat w1 (w.heap.size) (a1) (a2) := (((Rat.new' (by simp)).alloc _).alloc _).below k1
    have R_b : Rat w1 (w.heap.size + 1) (b1) (b2) := ((Rat.new' (by simp)).alloc _).below k1
    have R_r : Own w1 (w.heap.size + 1 + 1) (0) (0) := (Own.new' (by simp)).below k1
    clear k1
    obtain ⟨l_a, c_a, d_a⟩ := id R_a
    obtain ⟨l_b, c_b, d_b⟩ := id R_b
    obtain ⟨l_r, c_r, d_r, f_r, g_r⟩ := id R_r
    go_wp2_with fail
    refine (ref2_Check_yes b1 b2 ob _).mono ?_
    rintro e2 w2 ⟨rfl, k2⟩
    have B2 : Below w.heap.size w w2 := by have z := B1.size; exact B1.trans (k2.mono (by first | exact Nat.le_refl _ | (simp; done) | (simp; omega) | omega))
    replace R_a := R_a.below k2
    replace R_b := R_b.below k2
    replace R_r := R_r.below k2
    clear k2 l_a c_a d_a l_b c_b d_b l_r c_r d_r f_r g_r
    obtain ⟨l_a, c_a, d_a⟩ := id R_a
    obtain ⟨l_b, c_b, d_b⟩ := id R_b
    obtain ⟨l_r, c_r, d_r, f_r, g_r⟩ := id R_r
    go_wp2_with fail
    refine (ref2_Make_is (a1 * b1) (a2 * b2) u v e _ hin.1 hin.2 HT.out).mono ?_
    rintro e3 w3 ⟨rfl, k3⟩
    have B3 : Below w.heap.size w w3 := by have z := B2.size; exact B2.trans (k3.mono (by first | exact Nat.le_refl _ | (simp; done) | (simp; omega) | omega))
    replace R_a := R_a.below k3
    replace R_b := R_b.below k3
    replace R_r := R_r.below k3
    clear k3 l_a c_a d_a l_b c_b d_b l_r c_r d_r f_r g_r
    obtain ⟨l_a, c_a, d_a⟩ := id R_a
    obtain ⟨l_b, c_b, d_b⟩ := id R_b
    obtain ⟨l_r, c_r, d_r, f_r, g_r⟩ := id R_r
    go_wp2_with fail
    refine bodyPost_ret (v := .tuple #[.agg #[.int .i64 u, .int .i64 v], .int .i64 e]) (by simp [results, Try.results61, go_sem, c_r, d_r]) rfl ⟨rfl, by have z := B3.size; go_grown⟩
  · have hv := H.out
    unfold mulRP at hv
    rw [twoP_no (fun h => ob h.2)] at hv
    cases hv
    clear H
    go_enter Try.func61, Try.ntmps61
    go_wp2_with fail
    refine (ref2_Check_yes a1 a2 oa _).mono ?_
    rintro e1 w1 ⟨rfl, k1⟩
    have B1 : Below w.heap.size w w1 := ((((Below.refl _ _).alloc (by first | exact Nat.le_refl _ | (simp; done) | (simp; omega) | omega) _).alloc (by first | exact Nat.le_refl _ | (simp; done) | (simp; omega) | omega) _).alloc (by first | exact Nat.le_refl _ | (simp; done) | (simp; omega) | omega) _).trans (k1.mono (by first | exact Nat.le_refl _ | (simp; done) | (simp; omega) | omega))
    have R_a : Rat w1 (w.heap.size) (a1) (a2) := (((Rat.new' (by simp)).alloc _).alloc _).below k1
    have R_b : Rat w1 (w.heap.size + 1) (b1) (b2) := ((Rat.new' (by simp)).alloc _).below k1
    have R_r : Own w1 (w.heap.size + 1 + 1) (0) (0) := (Own.new' (by simp)).below k1
    clear k1
    obtain ⟨l_a, c_a, d_a⟩ := id R_a
    obtain ⟨l_b, c_b, d_b⟩ := id R_b
    obtain ⟨l_r, c_r, d_r, f_r, g_r⟩ := id R_r
    go_wp2_with fail
    refine (ref2_Check_no b1 b2 hb1 hb2 ob _).mono ?_
    rintro e2 w2 ⟨rfl, k2⟩
    have B2 : Below w.heap.size w w2 := by have z := B1.size; exact B1.trans (k2.mono (by first | exact Nat.le_refl _ | (simp; done) | (simp; omega) | omega))
    replace R_a := R_a.below k2
    replace R_b := R_b.below k2
    replace R_r := R_r.below k2
    clear k2 l_a c_a d_a l_b c_b d_b l_r c_r d_r f_r g_r
    obtain ⟨l_a, c_a, d_a⟩ := id R_a
    obtain ⟨l_b, c_b, d_b⟩ := id R_b
    obtain ⟨l_r, c_r, d_r, f_r, g_r⟩ := id R_r
    go_wp2_with fail
    refine bodyPost_ret (v := .tuple #[.agg #[.int .i64 0, .int .i64 0], .int .i64 20]) (by simp [results, Try.results61, go_sem, c_r, d_r]) rfl ⟨rfl, by have z := B2.size; go_grown⟩
  · have hv := H.out
    unfold mulRP at hv
    rw [twoP_no (fun h => oa h.1)] at hv
    cases hv
    clear H
    go_enter Try.func61, Try.ntmps61
    go_wp2_with fail
    refine (ref2_Check_no a1 a2 ha1 ha2 oa _).mono ?_
    rintro e1 w1 ⟨rfl, k1⟩
    have B1 : Below w.heap.size w w1 := ((((Below.refl _ _).alloc (by first | exact Nat.le_refl _ | (simp; done) | (simp; omega) | omega) _).alloc (by first | exact Nat.le_refl _ | (simp; done) | (simp; omega) | omega) _).alloc (by first | exact Nat.le_refl _ | (simp; done) | (simp; omega) | omega) _).trans (k1.mono (by first | exact Nat.le_refl _ | (simp; done) | (simp; omega) | omega))
    have R_a : Rat w1 (w.heap.size) (a1) (a2) := (((Rat.new' (by simp)).alloc _).alloc _).below k1
    have R_b : Rat w1 (w.heap.size + 1) (b1) (b2) := ((Rat.new' (by simp)).alloc _).below k1
    have R_r : Own w1 (w.heap.size + 1 + 1) (0) (0) := (Own.new' (by simp)).below k1
    clear k1
    obtain ⟨l_a, c_a, d_a⟩ := id R_a
    obtain ⟨l_b, c_b, d_b⟩ := id R_b
    obtain ⟨l_r, c_r, d_r, f_r, g_r⟩ := id R_r
    go_wp2_with fail
    refine ((ref2_Check_b b1 b2 hb1 hb2 _)).mono ?_
    rintro e2 w2 ⟨cb, rfl, k2⟩
    have B2 : Below w.heap.size w w2 := by have z := B1.size; exact B1.trans (k2.mono (by first | exact Nat.le_refl _ | (simp; done) | (simp; omega) | omega))
    replace R_a := R_a.below k2
    replace R_b := R_b.below k2
    replace R_r := R_r.below k2
    clear k2 l_a c_a d_a l_b c_b d_b l_r c_r d_r f_r g_r
    obtain ⟨l_a, c_a, d_a⟩ := id R_a
    obtain ⟨l_b, c_b, d_b⟩ := id R_b
    obtain ⟨l_r, c_r, d_r, f_r, g_r⟩ := id R_r
    go_wp2_with fail
    refine bodyPost_ret (v := .tuple #[.agg #[.int .i64 0, .int .i64 0], .int .i64 20]) (by simp [results, Try.results61, go_sem, c_r, d_r]) rfl ⟨rfl, by have z := B2.size; go_grown⟩


end Go.Proofs.Ytnjckaifgmliaaa
