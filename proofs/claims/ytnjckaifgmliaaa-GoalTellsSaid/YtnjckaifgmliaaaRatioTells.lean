/- THE WALK of RatioTells: it returns true, and turns nothing that was there. -/
import Derived.Test.YtnjckaifgmliaaaRatioUp
import Derived.Test.YtnjckaifgmliaaaRef02Sum
set_option linter.unusedSimpArgs false
set_option linter.unusedVariables false
namespace Go.Proofs.Ytnjckaifgmliaaa
open Go.RowKit Lu

theorem ref2_Sum_is (a : Option Addr) (len cap : Nat) (rs : List (Int × Int)) (x y e : Int) (w : World) (h : Ratios w a len rs) (hs : sumRP rs = ((x, y), e)) :
    Calls Try.prog 63 #[.slice a len cap] w fun r w' => r = .returned (.tuple #[.agg #[.int .i64 x, .int .i64 y], .int .i64 e]) ∧ Below w.heap.size w w' := by
  have := ref2_Sum a len cap rs w h
  rwa [hs] at this
theorem ratio_Check_is (n d : Int) (b : Bool) (hn : In n) (hd : In d) (h : Hid (b = decide (Ok n d))) (w : World) :
    Calls Try.prog 29 #[.agg #[.int .i64 n, .int .i64 d]] w fun e w' => e = .returned (.bool b) ∧ Below w.heap.size w w' := by
  rw [h.out]
  by_cases o : Ok n d
  · rw [decide_eq_true o]; exact ratio_Check_yes n d o w
  · rw [decide_eq_false o]; exact ratio_Check_no n d hn hd o w
theorem ref2_Check_is (n d : Int) (b : Bool) (hn : In n) (hd : In d) (h : Hid (b = decide (Ok n d))) (w : World) :
    Calls Try.prog 91 #[.agg #[.int .i64 n, .int .i64 d]] w fun e w' => e = .returned (.bool b) ∧ Below w.heap.size w w' := by
  rw [h.out]
  by_cases o : Ok n d
  · rw [decide_eq_true o]; exact ref2_Check_yes n d o w
  · rw [decide_eq_false o]; exact ref2_Check_no n d hn hd o w

theorem fin6 {w W v1 v2 v3 v4 v5 v6 : World} (B : Below w.heap.size w W) (k1 : Below W.drew.heap.size W.drew v1) (k2 : Below v1.heap.size v1 v2) (k3 : Below v2.heap.size v2 v3) (k4 : Below v3.heap.size v3 v4) (k5 : Below v4.heap.size v4 v5) (k6 : Below v5.heap.size v5 v6) : Below w.heap.size w v6 := by
  have c1 := B.drew.trans (k1.mono B.size)
  have c2 := c1.trans (k2.mono c1.size)
  have c3 := c2.trans (k3.mono c2.size)
  have c4 := c3.trans (k4.mono c3.size)
  have c5 := c4.trans (k5.mono c4.size)
  exact c5.trans (k6.mono c5.size)

end Go.Proofs.Ytnjckaifgmliaaa
