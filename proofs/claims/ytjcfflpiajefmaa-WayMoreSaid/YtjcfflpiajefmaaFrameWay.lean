/- WHAT THE STATEMENTS' FRAMES SHARE: a way that came in. -/
import Derived.Test.YtjcfflpiajefmaaFrame2
set_option linter.unusedSimpArgs false
set_option linter.unusedVariables false
namespace Go.Proofs.Ytjcfflpiajefmaa
open Go.ChangeShapes Go.WideShapes Go.ChangeAt Go.RowKit Go.Joins Go.Deep Lu

theorem cells_Way1 : Try.prog.cellsOf 55 = 3 := by kernel_rfl
set_option maxRecDepth 100000 in
theorem open_Way {H : Type} {enc : TypeId × Value → H} {W : World} {b0 base : Nat} {sp : Nat → Bool} {held : Bool} {r : Reach} {v : Value} {d : DataW H} {p : List MemPlace}
    (hv : Value.okWide Try.prog W r b0 55 v) (h : DataW.Trod enc Try.prog W base sp held 55 v d p) : ∃ a b m, v = .agg #[.int .i64 a, .int .i64 b, .int .i64 m] ∧ In a ∧ In b ∧ In m := by
  obtain ⟨c0, c1, c2, y0, y1, y2, n, rfl, _, _, hy0, hy1, hy2⟩ := open_agg3 Try.underlying55 (by kernel_rfl) cells_Way1 hv h
  obtain ⟨a, e0, _, wa⟩ := DataW.trod_int Try.underlying3 hy0
  obtain ⟨b, e1, _, wb⟩ := DataW.trod_int Try.underlying3 hy1
  obtain ⟨m, e2, _, wm⟩ := DataW.trod_int Try.underlying3 hy2
  simp at e0 e1 e2
  subst e0 e1 e2
  exact ⟨a, b, m, rfl, in_i64 wa, in_i64 wb, in_i64 wm⟩
end Go.Proofs.Ytjcfflpiajefmaa
