/- THE PLAIN SIDE of layer 10 (goal): how long a task is to take. No Go in sight. -/
import Derived.Test.YtnjckaifgmliaaaPlainEvent
import Derived.Test.YtnjckaifgmliaaaPlainRatio2
set_option linter.unusedSimpArgs false
set_option linter.unusedVariables false
namespace Lu

/-- A step, if nothing was wrong so far. -/
def stepP (f : Int → Int → Int → Int → (Int × Int) × Int) (a b : Int × Int) (e : Int) : (Int × Int) × Int := if e = 0 then f a.1 a.2 b.1 b.2 else ((0, 0), e)
def goalT1 (far : Int) (pace : Int × Int) : (Int × Int) × Int := mulRP far 1 pace.1 pace.2
def goalT2 (far : Int) (pace gear : Int × Int) : (Int × Int) × Int := stepP mulRP (goalT1 far pace).1 gear (goalT1 far pace).2
def goalH0 (far units : Int) (pace gear unit : Int × Int) : (Int × Int) × Int := stepP mulRP unit (units, 1) (goalT2 far pace gear).2
def goalH1 (far units : Int) (pace gear unit fixed : Int × Int) : (Int × Int) × Int := stepP addRP fixed (goalH0 far units pace gear unit).1 (goalH0 far units pace gear unit).2
def goalH2 (far units : Int) (pace gear unit fixed cls : Int × Int) : (Int × Int) × Int := stepP mulRP (goalH1 far units pace gear unit fixed).1 cls (goalH1 far units pace gear unit fixed).2
def goalB (far units : Int) (pace gear unit fixed cls : Int × Int) : (Int × Int) × Int := stepP addRP (goalT2 far pace gear).1 (goalH2 far units pace gear unit fixed cls).1 (goalH2 far units pace gear unit fixed cls).2
def goalO (far units allow : Int) (pace gear unit fixed cls : Int × Int) : (Int × Int) × Int := stepP mulRP (goalB far units pace gear unit fixed cls).1 (mkP (100 + allow) 100).1 (goalB far units pace gear unit fixed cls).2
theorem stepP_err {f : Int → Int → Int → Int → (Int × Int) × Int} {a b : Int × Int} {e x y e' : Int} (hf : ∀ a1 a2 b1 b2 x y e, f a1 a2 b1 b2 = ((x, y), e) → e ≠ 0 → x = 0 ∧ y = 0) (h : stepP f a b e = ((x, y), e')) (he : e' ≠ 0) : x = 0 ∧ y = 0 := by
  unfold stepP at h
  split at h
  · exact hf _ _ _ _ _ _ _ h he
  · simp at h; exact ⟨h.1.1.symm, h.1.2.symm⟩
theorem stepP_in {f : Int → Int → Int → Int → (Int × Int) × Int} {a b : Int × Int} {e x y e' : Int} (hf : ∀ a1 a2 b1 b2 x y e, f a1 a2 b1 b2 = ((x, y), e) → In x ∧ In y) (h : stepP f a b e = ((x, y), e')) : In x ∧ In y := by
  unfold stepP at h
  split at h
  · exact hf _ _ _ _ _ _ _ h
  · simp at h
    obtain ⟨⟨rfl, rfl⟩, _⟩ := h
    exact ⟨by decide, by decide⟩
theorem mul_err {a1 a2 b1 b2 x y e : Int} (h : mulRP a1 a2 b1 b2 = ((x, y), e)) (he : e ≠ 0) : x = 0 ∧ y = 0 := twoP_err h he
theorem add_err {a1 a2 b1 b2 x y e : Int} (h : addRP a1 a2 b1 b2 = ((x, y), e)) (he : e ≠ 0) : x = 0 ∧ y = 0 := twoP_err h he
theorem mul_rng {a1 a2 b1 b2 x y e : Int} (h : mulRP a1 a2 b1 b2 = ((x, y), e)) : In x ∧ In y := two_range h
theorem add_rng {a1 a2 b1 b2 x y e : Int} (h : addRP a1 a2 b1 b2 = ((x, y), e)) : In x ∧ In y := two_range h
end Lu
