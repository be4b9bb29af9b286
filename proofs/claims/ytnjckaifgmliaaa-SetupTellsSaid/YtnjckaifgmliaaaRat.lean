/- A RATIO IN A BLOCK of its own, kept while the world grows. -/
import Derived.Test.YtnjckaifgmliaaaRatio4
set_option linter.unusedSimpArgs false
set_option linter.unusedVariables false
namespace Go.Proofs.Ytnjckaifgmliaaa
open Go.RowKit Lu

/-- A ratio lies whole in a block. -/
structure Rat (w : World) (b : Nat) (x y : Int) : Prop where
  lt : b < w.heap.size
  c0 : w.cell? ⟨b, 0, none⟩ = some (.int .i64 x)
  c1 : w.cell? ⟨b, 1, none⟩ = some (.int .i64 y)
theorem Rat.new' {w : World} {b : Nat} {x y : Int} {T : TypeId} (hb : b = w.heap.size) : Rat (w.alloc (.cells #[.int .i64 x, .int .i64 y] T)) b x y := by
  subst hb
  exact ⟨by simp, by simp [go_sem], by simp [go_sem]⟩
theorem Rat.below {w w1 : World} {b : Nat} {x y : Int} (h : Rat w b x y) (k : Below w.heap.size w w1) : Rat w1 b x y :=
  ⟨Nat.lt_of_lt_of_le h.lt k.size, keepC k h.c0 h.lt, keepC k h.c1 h.lt⟩
theorem Rat.alloc {w : World} {b : Nat} {x y : Int} (h : Rat w b x y) (o : Obj) : Rat (w.alloc o) b x y :=
  ⟨by simp; exact Nat.lt_succ_of_lt h.lt, by rw [World.cell?_alloc_lt _ _ _ h.lt]; exact h.c0, by rw [World.cell?_alloc_lt _ _ _ h.lt]; exact h.c1⟩

/-- .. and may be written. -/
structure Own (w : World) (b : Nat) (x y : Int) : Prop where
  lt : b < w.heap.size
  c0 : w.cell? ⟨b, 0, none⟩ = some (.int .i64 x)
  c1 : w.cell? ⟨b, 1, none⟩ = some (.int .i64 y)
  f0 : w.frozen? ⟨b, 0, none⟩ = false
  f1 : w.frozen? ⟨b, 1, none⟩ = false
theorem Own.new' {w : World} {b : Nat} {x y : Int} {T : TypeId} (hb : b = w.heap.size) : Own (w.alloc (.cells #[.int .i64 x, .int .i64 y] T)) b x y := by
  subst hb
  exact ⟨by simp, by simp [go_sem], by simp [go_sem], by simp [go_sem], by simp [go_sem]⟩
theorem Own.below {w w1 : World} {b : Nat} {x y : Int} (h : Own w b x y) (k : Below w.heap.size w w1) : Own w1 b x y :=
  ⟨Nat.lt_of_lt_of_le h.lt k.size, keepC k h.c0 h.lt, keepC k h.c1 h.lt, keepF k h.f0 h.lt, keepF k h.f1 h.lt⟩
theorem Own.alloc {w : World} {b : Nat} {x y : Int} (h : Own w b x y) (o : Obj) : Own (w.alloc o) b x y :=
  h.below ((Below.refl _ _).alloc (Nat.le_refl _) o)

theorem Ratios_new2 (w : World) (b : Nat) (hb : b = w.heap.size) (x y u v : Int) (T : TypeId) (h1 : In x) (h2 : In y) (h3 : In u) (h4 : In v) :
    Ratios (w.alloc (.cells #[.int .i64 x, .int .i64 y, .int .i64 u, .int .i64 v] T)) (some ⟨b, 0, none⟩) 2 [(x, y), (u, v)] := by
  subst hb
  refine ⟨rfl, by decide, by simp [h1, h2, h3, h4], Or.inr ⟨_, _, rfl, by simp, fun i hi => ?_⟩⟩
  rcases (show i = 0 ∨ i = 1 by omega) with rfl | rfl <;> simp [go_sem]
end Go.Proofs.Ytnjckaifgmliaaa
