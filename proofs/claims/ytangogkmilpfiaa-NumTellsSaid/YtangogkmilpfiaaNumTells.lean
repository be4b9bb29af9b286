/- THE WALK of NumTells: it returns true, and turns nothing that was there. -/
import Derived.Test.YtangogkmilpfiaaNumUp
import Derived.Test.YtangogkmilpfiaaMem
import Derived.Test.YtangogkmilpfiaaRefGcd
namespace Go.Proofs.Ytangogkmilpfiaa
open Go.RowKit Lu

theorem numTells_walk (a0 : Option Addr) (len0 cap0 : Nat) (z0 : List Int) (a b : Int) (w : World) (h0 : Ints w a0 len0 z0) (ha : In a) (hb : In b) :
    Calls Try.prog 3 #[.slice a0 len0 cap0, .int .i64 a, .int .i64 b] w fun e w' => e = .returned (.bool true) ∧ Below w.heap.size w w' := by
  have l0 := h0.2.1
  by_cases c0 : 1000 < len0
  · go_enter Try.func3, Try.ntmps3
    go_wp2_with fail
    refine (awake01 _).mono ?_
    rintro e w1 ⟨rfl, hb1⟩
    go_wp2_with fail
    go_ret
    exact ⟨rfl, hb1⟩
  have c0' : len0 ≤ 1000 := by omega
  go_enter Try.func3, Try.ntmps3
  go_wp2_with fail
  refine (awake01 _).mono ?_
  rintro e w1 ⟨rfl, hb1⟩
  have q1 := num_Sum a0 len0 cap0 z0 w1 (h0.below hb1)
  have q2 := ref_Sum a0 len0 cap0 z0 w1 (h0.below hb1)
  generalize sumP z0 = s at q1 q2
  obtain ⟨s, x1⟩ := s
  have Q1 := Lib.hid q1
  have Q2 := Lib.hid q2
  clear q1 q2
  go_wp2_with fail
  refine Q1.out.mono ?_
  rintro e w' ⟨rfl, rfl⟩
  go_wp2_with fail
  refine Q2.out.mono ?_
  rintro e w' ⟨rfl, rfl⟩
  have q1 := num_Mul a b ha hb w1
  have q2 := ref_Mul a b ha hb w1
  generalize mulP a b = m at q1 q2
  obtain ⟨m, x2⟩ := m
  have Q3 := Lib.hid q1
  have Q4 := Lib.hid q2
  clear q1 q2
  go_wp2_with fail
  refine Q3.out.mono ?_
  rintro e w' ⟨rfl, rfl⟩
  go_wp2_with fail
  refine Q4.out.mono ?_
  rintro e w' ⟨rfl, rfl⟩
  have q1 := num_Div a b ha hb
  have q2 := ref_Div a b ha hb
  generalize divP a b = m at q1 q2
  obtain ⟨d, x3⟩ := m
  have Q5 := Lib.hid q1
  have Q6 := Lib.hid q2
  clear q1 q2
  go_wp2_with fail
  refine (Q5.out _).mono ?_
  rintro e w' ⟨rfl, n1, rfl⟩
  go_wp2_with fail
  refine (Q6.out _).mono ?_
  rintro e w' ⟨rfl, rfl⟩
  have q1 := num_Half a b ha hb
  have q2 := ref_Half a b ha hb
  generalize halfP a b = m at q1 q2
  obtain ⟨h, x4⟩ := m
  have Q7 := Lib.hid q1
  have Q8 := Lib.hid q2
  clear q1 q2
  go_wp2_with fail
  refine (Q7.out _).mono ?_
  rintro e w' ⟨rfl, n2, rfl⟩
  go_wp2_with fail
  refine (Q8.out _).mono ?_
  rintro e w' ⟨rfl, rfl⟩
  have q1 := num_Up a b ha hb
  have q2 := ref_Up a b ha hb
  generalize upP a b = m at q1 q2
  obtain ⟨u, x5⟩ := m
  have Q9 := Lib.hid q1
  have Q10 := Lib.hid q2
  clear q1 q2
  go_wp2_with fail
  refine (Q9.out _).mono ?_
  rintro e w' ⟨rfl, n3, rfl⟩
  go_wp2_with fail
  refine (Q10.out _).mono ?_
  rintro e w' ⟨rfl, rfl⟩
  have q1 := num_Gcd a b ha hb
  have q2 := ref_Gcd a b ha hb
  generalize gcdP a b = g at q1 q2
  have Q11 := Lib.hid q1
  have Q12 := Lib.hid q2
  clear q1 q2
  go_wp2_with fail
  refine (Q11.out _).mono ?_
  rintro e w' ⟨rfl, n4, rfl⟩
  go_wp2_with fail
  refine (Q12.out _).mono ?_
  rintro e w' ⟨rfl, rfl⟩
  go_wp2_with fail
  go_ret
  exact ⟨rfl, by repeat (first | exact hb1 | apply below_drewN)⟩
end Go.Proofs.Ytangogkmilpfiaa
