/- WHAT THE STATEMENTS' FRAMES SHARE: seven seconds that came in. -/
import Derived.Test.YtjcfflpiajefmaaFrame7
set_option linter.unusedSimpArgs false
set_option linter.unusedVariables false
namespace Go.Proofs.Ytjcfflpiajefmaa
open Go.ChangeShapes Go.WideShapes Go.ChangeAt Go.RowKit Go.Joins Go.Deep Lu

theorem cells_Seven : Try.prog.cellsOf 31 = 7 := by kernel_rfl
set_option maxRecDepth 100000 in
theorem open_Seven {H : Type} {enc : TypeId × Value → H} {W : World} {b0 base : Nat} {sp : Nat → Bool} {held : Bool} {r : Reach} {v : Value} {d : DataW H} {p : List MemPlace}
    (hv : Value.okWide Try.prog W r b0 31 v) (h : DataW.Trod enc Try.prog W base sp held 31 v d p) :
    ∃ x0 x1 x2 x3 x4 x5 x6, v = .agg #[.int .i64 x0, .int .i64 x1, .int .i64 x2, .int .i64 x3, .int .i64 x4, .int .i64 x5, .int .i64 x6] ∧ In x0 ∧ In x1 ∧ In x2 ∧ In x3 ∧ In x4 ∧ In x5 ∧ In x6 := by
  simp only [Value.okWide, Try.underlying31] at hv
  obtain ⟨cs, rfl, hsz, _⟩ := hv
  obtain ⟨l⟩ := cs
  match l, hsz.trans cells_Seven with
  | [c0, c1, c2, c3, c4, c5, c6], _ =>
    obtain ⟨fuel, hf⟩ := h
    obtain ⟨ys, n, _, _, hlen, hyl, hg⟩ := DataW.trod_array Try.underlying31 hf
    have g : ∀ (i : Nat) (hi : i < 7) (c : Value), DataW.trod enc Try.prog W base sp held n 3 [c] = ys[i]? → ∃ u : Int, c = .int .i64 u ∧ In u := by
      intro i hi c hc
      rw [show ys[i]? = some (ys[i]'(by rw [hyl]; exact hi)) from List.getElem?_eq_getElem _] at hc
      obtain ⟨u, e, _, w⟩ := DataW.trod_int Try.underlying3 hc
      exact ⟨u, by simpa using e, in_i64 w⟩
    obtain ⟨x0, rfl, w0⟩ := g 0 (by decide) c0 (by have := hg 0 (by decide); simpa [cellsInt, Value.cells] using this)
    obtain ⟨x1, rfl, w1⟩ := g 1 (by decide) c1 (by have := hg 1 (by decide); simpa [cellsInt, Value.cells] using this)
    obtain ⟨x2, rfl, w2⟩ := g 2 (by decide) c2 (by have := hg 2 (by decide); simpa [cellsInt, Value.cells] using this)
    obtain ⟨x3, rfl, w3⟩ := g 3 (by decide) c3 (by have := hg 3 (by decide); simpa [cellsInt, Value.cells] using this)
    obtain ⟨x4, rfl, w4⟩ := g 4 (by decide) c4 (by have := hg 4 (by decide); simpa [cellsInt, Value.cells] using this)
    obtain ⟨x5, rfl, w5⟩ := g 5 (by decide) c5 (by have := hg 5 (by decide); simpa [cellsInt, Value.cells] using this)
    obtain ⟨x6, rfl, w6⟩ := g 6 (by decide) c6 (by have := hg 6 (by decide); simpa [cellsInt, Value.cells] using this)
    exact ⟨x0, x1, x2, x3, x4, x5, x6, rfl, w0, w1, w2, w3, w4, w5, w6⟩
end Go.Proofs.Ytjcfflpiajefmaa
