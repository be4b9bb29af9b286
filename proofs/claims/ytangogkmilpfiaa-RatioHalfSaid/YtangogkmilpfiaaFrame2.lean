/- WHAT THE STATEMENTS' FRAMES SHARE: ratios that came in. -/
import Derived.Test.YtangogkmilpfiaaFrame
import Derived.Test.YtangogkmilpfiaaRatio4
import Derived.Lib.SmallJoins
import Derived.Deep.Slices
import Derived.Deep.Fields
namespace Go.Proofs.Ytangogkmilpfiaa
open Go.ChangeShapes Go.WideShapes Go.ChangeAt Go.RowKit Go.Joins Go.Deep Lu

theorem cellsRatio : Try.prog.cellsOf 37 = 2 := by kernel_rfl
/-- A ratio that came in. -/
theorem open_Ratio {H : Type} {enc : TypeId × Value → H} {W : World} {b0 base : Nat} {sp : Nat → Bool} {held : Bool} {r : Reach} {v : Value} {d : DataW H} {p : List MemPlace}
    (hv : Value.okWide Try.prog W r b0 37 v) (h : DataW.Trod enc Try.prog W base sp held 37 v d p) : ∃ n m, v = .agg #[.int .i64 n, .int .i64 m] ∧ In n ∧ In m := by
  obtain ⟨c0, c1, y0, y1, m, rfl, _, _, hy0, hy1⟩ := open_agg2 Try.underlying37 (by kernel_rfl) cellsRatio hv h
  obtain ⟨a, e0, _, wa⟩ := DataW.trod_int Try.underlying3 hy0
  obtain ⟨b, e1, _, wb⟩ := DataW.trod_int Try.underlying3 hy1
  simp at e0 e1
  subst e0 e1
  exact ⟨a, b, rfl, in_i64 wa, in_i64 wb⟩
end Go.Proofs.Ytangogkmilpfiaa
