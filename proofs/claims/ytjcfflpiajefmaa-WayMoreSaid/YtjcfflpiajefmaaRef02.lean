/- THE WALKS of layer 2's reference (lumperref02): each function, once: it comes to what ratio comes to. -/
import Derived.Test.YtjcfflpiajefmaaRat
import Derived.Test.YtjcfflpiajefmaaRefGcd
import Derived.Test.YtjcfflpiajefmaaPlainRatio2
set_option linter.unusedSimpArgs false
set_option linter.unusedVariables false
namespace Go.Proofs.Ytjcfflpiajefmaa
open Go.RowKit Lu

/-- lumperref02.Check. -/
theorem ref2_Check_yes (n d : Int) (h : Ok n d) (w : World) :
    Calls Try.prog 65 #[.agg #[.int .i64 n, .int .i64 d]] w fun e w' => e = .returned (.bool true) ∧ Below w.heap.size w w' := by
  have hg := ref_Gcd n d h.in1 h.in2
  rw [Ok_gcd h] at hg
  have HG := Lib.hid hg
  obtain ⟨h1, h2, h3, h4, h5⟩ := h
  clear hg h5
  go_enter Try.func65, Try.ntmps65
  go_wp2_with fail
  refine (HG.out _).mono ?_
  rintro e w1 ⟨rfl, rfl⟩
  go_wp2_with fail
  go_ret
  exact ⟨rfl, by go_grown⟩
theorem ref2_Check_no (n d : Int) (hn : In n) (hd : In d) (h : ¬ Ok n d) (w : World) :
    Calls Try.prog 65 #[.agg #[.int .i64 n, .int .i64 d]] w fun e w' => e = .returned (.bool false) ∧ Below w.heap.size w w' := by
  by_cases c1 : -2147483647 ≤ n
  · by_cases c2 : n ≤ 2147483647
    · by_cases c3 : 1 ≤ d
      · by_cases c4 : d ≤ 2147483647
        · have hg := ref_Gcd n d hn hd
          have ng : (gcdP n d == 1) = false := by
            rw [beq_eq_false_iff_ne]
            intro e
            apply h
            refine ⟨c1, c2, c3, c4, ?_⟩
            unfold gcdP at e
            rw [sideN_small (by omega), sideN_small (by omega)] at e
            omega
          generalize gcdP n d = g at *
          have HG := Lib.hid hg
          clear hg
          go_enter Try.func65, Try.ntmps65
          go_wp2_with fail
          refine (HG.out _).mono ?_
          rintro e w1 ⟨rfl, rfl⟩
          go_wp2_with fail
          go_ret
          exact ⟨rfl, by go_grown⟩
        · have c4' : 2147483647 < d := by omega
          have d4 : decide (d ≤ 2147483647) = false := by simp; omega
          go_enter Try.func65, Try.ntmps65
          go_wp2_with fail
          go_ret
          exact ⟨rfl, by go_grown⟩
      · have c3' : d < 1 := by omega
        have d3 : decide (1 ≤ d) = false := by simp; omega
        go_enter Try.func65, Try.ntmps65
        go_wp2_with fail
        go_ret
        exact ⟨rfl, by go_grown⟩
    · have c2' : 2147483647 < n := by omega
      have d2 : decide (n ≤ 2147483647) = false := by simp; omega
      go_enter Try.func65, Try.ntmps65
      go_wp2_with fail
      go_ret
      exact ⟨rfl, by go_grown⟩
  · have c1' : n < -2147483647 := by omega
    have d1 : decide (-2147483647 ≤ n) = false := by simp; omega
    go_enter Try.func65, Try.ntmps65
    go_wp2_with fail
    go_ret
    exact ⟨rfl, by go_grown⟩

theorem ref2_Check_b (n d : Int) (hn : In n) (hd : In d) (w : World) :
    Calls Try.prog 65 #[.agg #[.int .i64 n, .int .i64 d]] w fun e w' => ∃ b, e = .returned (.bool b) ∧ Below w.heap.size w w' := by
  by_cases o : Ok n d
  · exact (ref2_Check_yes n d o w).mono fun e w' h => ⟨true, h⟩
  · exact (ref2_Check_no n d hn hd o w).mono fun e w' h => ⟨false, h⟩

end Go.Proofs.Ytjcfflpiajefmaa
