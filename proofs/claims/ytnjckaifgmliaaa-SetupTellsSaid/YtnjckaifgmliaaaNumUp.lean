/- THE HEAD OF THE STATEMENTS of layer 1: 'awake' returns true. -/
import Derived.Test.YtnjckaifgmliaaaNum
import Derived.WalkSmall
set_option linter.unusedSimpArgs false
set_option linter.unusedVariables false
namespace Go.Proofs.Ytnjckaifgmliaaa
open Go.RowKit Lu

theorem Ints_new (w : World) (b : Nat) (hb : b = w.heap.size) (zs : List Int) (T : TypeId) (n : Nat) (hn : zs.length = n) (h : ∀ z ∈ zs, In z) (hl : n ≤ 9223372036854775807) :
    Ints (w.alloc (.cells (zs.map (Value.int .i64)).toArray T)) (some ⟨b, 0, none⟩) n zs := by
  subst hb
  refine ⟨hn, by omega, h, Or.inr ⟨_, _, rfl, fun i hi => ?_⟩⟩
  rw [Nat.zero_add, World.cell?_alloc_new]
  simp [List.getD_eq_getElem?_getD, List.getElem?_eq_getElem (show i < zs.length by omega)]

theorem num_Gcd_is (a b : Int) (w : World) (g : Int) (ha : In a) (hb : In b) (hs : gcdP a b = g) :
    Calls Try.prog 96 #[.int .i64 a, .int .i64 b] w fun e w' => e = .returned (.int .i64 g) ∧ ∃ n, w' = w.drewN n := by
  have := num_Gcd a b ha hb w
  rwa [hs] at this

end Go.Proofs.Ytnjckaifgmliaaa
