/- THE HEAD OF THE STATEMENTS of layer 1: 'awake' returns true. -/
import Derived.Test.YtangogkmilpfiaaNum
import Derived.WalkSmall
set_option linter.unusedSimpArgs false
set_option linter.unusedVariables false
namespace Go.Proofs.Ytangogkmilpfiaa
open Go.RowKit Lu

theorem Ints_new (w : World) (b : Nat) (hb : b = w.heap.size) (zs : List Int) (T : TypeId) (n : Nat) (hn : zs.length = n) (h : ∀ z ∈ zs, In z) (hl : n ≤ 9223372036854775807) :
    Ints (w.alloc (.cells (zs.map (Value.int .i64)).toArray T)) (some ⟨b, 0, none⟩) n zs := by
  subst hb
  refine ⟨hn, by omega, h, Or.inr ⟨_, _, rfl, fun i hi => ?_⟩⟩
  rw [Nat.zero_add, World.cell?_alloc_new]
  simp [List.getD_eq_getElem?_getD, List.getElem?_eq_getElem (show i < zs.length by omega)]

/-- The contracts at a known answer. -/
theorem num_Sum_is (a : Option Addr) (len cap : Nat) (zs : List Int) (w : World) (s x : Int) (h : Ints w a len zs) (hs : sumP zs = (s, x)) :
    Calls Try.prog 16 #[.slice a len cap] w fun e w' => e = .returned (.tuple #[.int .i64 s, .int .i64 x]) ∧ w = w' := by
  have := num_Sum a len cap zs w h
  rwa [hs] at this
theorem num_Mul_is (a b : Int) (w : World) (s x : Int) (ha : In a) (hb : In b) (hs : mulP a b = (s, x)) :
    Calls Try.prog 18 #[.int .i64 a, .int .i64 b] w fun e w' => e = .returned (.tuple #[.int .i64 s, .int .i64 x]) ∧ w = w' := by
  have := num_Mul a b ha hb w
  rwa [hs] at this
theorem num_Div_is (a b : Int) (w : World) (s x : Int) (ha : In a) (hb : In b) (hs : divP a b = (s, x)) :
    Calls Try.prog 20 #[.int .i64 a, .int .i64 b] w fun e w' => e = .returned (.tuple #[.int .i64 s, .int .i64 x]) ∧ ∃ n, w' = w.drewN n := by
  have := num_Div a b ha hb w
  rwa [hs] at this
theorem num_Half_is (a b : Int) (w : World) (s x : Int) (ha : In a) (hb : In b) (hs : halfP a b = (s, x)) :
    Calls Try.prog 22 #[.int .i64 a, .int .i64 b] w fun e w' => e = .returned (.tuple #[.int .i64 s, .int .i64 x]) ∧ ∃ n, w' = w.drewN n := by
  have := num_Half a b ha hb w
  rwa [hs] at this
theorem num_Up_is (a b : Int) (w : World) (s x : Int) (ha : In a) (hb : In b) (hs : upP a b = (s, x)) :
    Calls Try.prog 24 #[.int .i64 a, .int .i64 b] w fun e w' => e = .returned (.tuple #[.int .i64 s, .int .i64 x]) ∧ ∃ n, w' = w.drewN n := by
  have := num_Up a b ha hb w
  rwa [hs] at this
theorem num_Gcd_is (a b : Int) (w : World) (g : Int) (ha : In a) (hb : In b) (hs : gcdP a b = g) :
    Calls Try.prog 26 #[.int .i64 a, .int .i64 b] w fun e w' => e = .returned (.int .i64 g) ∧ ∃ n, w' = w.drewN n := by
  have := num_Gcd a b ha hb w
  rwa [hs] at this

/-- awake. -/
theorem awake01 (w : World) :
    Calls Try.prog 15 #[] w fun e w' => e = .returned (.bool true) ∧ Below w.heap.size w w' := by
  go_enter Try.func15, Try.ntmps15
  go_wp2_with fail
  refine (num_Sum_is _ _ _ [1, 2, 4] _ 7 0 (Ints_new _ _ (by simp) [1, 2, 4] _ _ rfl (by decide) (by decide)) (by decide)).mono ?_
  rintro e w' ⟨rfl, rfl⟩
  go_wp2_with fail
  refine (num_Sum_is _ _ _ [4611686018427387904, 4611686018427387904] _ 0 10 (Ints_new _ _ (by simp) [4611686018427387904, 4611686018427387904] _ _ rfl (by decide) (by decide)) (by decide)).mono ?_
  rintro e w' ⟨rfl, rfl⟩
  go_wp2_with fail
  refine (num_Mul_is _ _ _ (-15) 0 (by decide) (by decide) (by decide)).mono ?_
  rintro e w' ⟨rfl, rfl⟩
  go_wp2_with fail
  refine (num_Mul_is _ _ _ 0 10 (by decide) (by decide) (by decide)).mono ?_
  rintro e w' ⟨rfl, rfl⟩
  go_wp2_with fail
  refine (num_Div_is _ _ _ (-4) 0 (by decide) (by decide) (by decide)).mono ?_
  rintro e w' ⟨rfl, n1, rfl⟩
  go_wp2_with fail
  refine (num_Div_is _ _ _ 0 20 (by decide) (by decide) (by decide)).mono ?_
  rintro e w' ⟨rfl, n2, rfl⟩
  go_wp2_with fail
  refine (num_Half_is _ _ _ (-3) 0 (by decide) (by decide) (by decide)).mono ?_
  rintro e w' ⟨rfl, n3, rfl⟩
  go_wp2_with fail
  refine (num_Up_is _ _ _ 4 0 (by decide) (by decide) (by decide)).mono ?_
  rintro e w' ⟨rfl, n4, rfl⟩
  go_wp2_with fail
  refine (num_Gcd_is _ _ _ 6 (by decide) (by decide) (by decide)).mono ?_
  rintro e w' ⟨rfl, n5, rfl⟩
  go_wp2_with fail
  go_ret
  exact ⟨rfl, by repeat (first | exact Below.refl _ _ | apply below_drewN | (refine Below.alloc ?_ (by simp) _))⟩
end Go.Proofs.Ytangogkmilpfiaa
