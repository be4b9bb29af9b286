/- THE WALKS of layer 2 (ratio), on: which is less, the nearest number. -/
import Derived.Test.YtnjckaifgmliaaaRatio2
set_option linter.unusedSimpArgs false
set_option linter.unusedVariables false
namespace Go.Proofs.Ytnjckaifgmliaaa
open Go.RowKit Lu

/-- ratio.Less. -/
theorem ratio_Less (a1 a2 b1 b2 : Int) (ha1 : In a1) (ha2 : In a2) (hb1 : In b1) (hb2 : In b2) (w : World) :
    Calls Try.prog 32 #[.agg #[.int .i64 a1, .int .i64 a2], .agg #[.int .i64 b1, .int .i64 b2]] w fun e w' =>
      e = .returned (.bool (lessP a1 a2 b1 b2)) ∧ Below w.heap.size w w' := by
  by_cases oa : Ok a1 a2
  · by_cases ob : Ok b1 b2
    · have p0 := prod31 oa.num ob.den
      have p1 := prod31 ob.num oa.den
      have hv : lessP a1 a2 b1 b2 = decide (a1 * b2 < b1 * a2) := by unfold lessP; simp [oa, ob]
      rw [hv]
      clear hv
      go_enter Try.func32, Try.ntmps32
      go_wp2_with fail
      refine (ratio_Check_yes a1 a2 oa _).mono ?_
      rintro e1 w1 ⟨rfl, k1⟩
      have z1 : w.heap.size + 1 < w1.heap.size := by have := k1.size; simp at this; omega
      have B1 : Below (w.heap.size + 2) ((w.alloc (.cells #[.int .i64 a1, .int .i64 a2] 24)).alloc (.cells #[.int .i64 b1, .int .i64 b2] 24)) w1 := k1.mono (by simp)
      obtain ⟨hc1, hf1⟩ := old_cells B1
      go_wp2_with fail
      refine (ratio_Check_yes b1 b2 ob _).mono ?_
      rintro e2 w2 ⟨rfl, k2⟩
      have B2 := B1.trans (k2.mono (by omega))
      have z2 : w.heap.size + 1 < w2.heap.size := by have := k2.size; omega
      have hB : Below w.heap.size w w2 := by
        refine Below.trans ?_ (B2.mono (by omega))
        go_grown
      clear k1 k2 hc1 hf1 B1 z1
      obtain ⟨hc2, hf2⟩ := old_cells B2
      go_wp2_with fail
      go_ret
      exact ⟨rfl, hB⟩
    · have hv : lessP a1 a2 b1 b2 = false := by unfold lessP; simp [ob]
      rw [hv]
      clear hv
      go_enter Try.func32, Try.ntmps32
      go_wp2_with fail
      refine (ratio_Check_yes a1 a2 oa _).mono ?_
      rintro e1 w1 ⟨rfl, k1⟩
      have z1 : w.heap.size + 1 < w1.heap.size := by have := k1.size; simp at this; omega
      have B1 : Below (w.heap.size + 2) ((w.alloc (.cells #[.int .i64 a1, .int .i64 a2] 24)).alloc (.cells #[.int .i64 b1, .int .i64 b2] 24)) w1 := k1.mono (by simp)
      obtain ⟨hc1, hf1⟩ := old_cells B1
      go_wp2_with fail
      refine (ratio_Check_no b1 b2 hb1 hb2 ob _).mono ?_
      rintro e2 w2 ⟨rfl, k2⟩
      have B2 := B1.trans (k2.mono (by omega))
      have hB : Below w.heap.size w w2 := by
        refine Below.trans ?_ (B2.mono (by omega))
        go_grown
      go_wp2_with fail
      go_ret
      exact ⟨rfl, hB⟩
  · have hv : lessP a1 a2 b1 b2 = false := by unfold lessP; simp [oa]
    rw [hv]
    clear hv
    go_enter Try.func32, Try.ntmps32
    go_wp2_with fail
    refine (ratio_Check_no a1 a2 ha1 ha2 oa _).mono ?_
    rintro e1 w1 ⟨rfl, k1⟩
    have B1 : Below (w.heap.size + 2) ((w.alloc (.cells #[.int .i64 a1, .int .i64 a2] 24)).alloc (.cells #[.int .i64 b1, .int .i64 b2] 24)) w1 := k1.mono (by simp)
    have hB : Below w.heap.size w w1 := by
      refine Below.trans ?_ (B1.mono (by omega))
      go_grown
    go_wp2_with fail
    go_ret
    exact ⟨rfl, hB⟩

end Go.Proofs.Ytnjckaifgmliaaa
