/- THE HEAD OF THE STATEMENTS of layer 2: 'awake' returns true. -/
import Derived.Test.YtnjckaifgmliaaaRat
set_option linter.unusedSimpArgs false
set_option linter.unusedVariables false
namespace Go.Proofs.Ytnjckaifgmliaaa
open Go.RowKit Lu

theorem ratio_Less_is (a1 a2 b1 b2 : Int) (r : Bool) (w : World) (ha1 : In a1) (ha2 : In a2) (hb1 : In b1) (hb2 : In b2) (h : lessP a1 a2 b1 b2 = r) :
    Calls Try.prog 32 #[.agg #[.int .i64 a1, .int .i64 a2], .agg #[.int .i64 b1, .int .i64 b2]] w fun e w' => e = .returned (.bool r) ∧ Below w.heap.size w w' := by
  have := ratio_Less a1 a2 b1 b2 ha1 ha2 hb1 hb2 w
  rwa [h] at this

end Go.Proofs.Ytnjckaifgmliaaa
