/- THE WALK of NumSpread: it returns true, and turns nothing that was there. -/
import Derived.Test.YtangogkmilpfiaaNumUp
namespace Go.Proofs.Ytangogkmilpfiaa
open Go.RowKit Lu

theorem prod32 {a b : Int} (ha : -2147483648 ≤ a ∧ a ≤ 2147483647) (hb : -2147483648 ≤ b ∧ b ≤ 2147483647) : In (a * b) := by
  have h1 : (a * b).natAbs = a.natAbs * b.natAbs := Int.natAbs_mul a b
  have h2 : a.natAbs * b.natAbs ≤ 2147483648 * 2147483648 := Nat.mul_le_mul (by omega) (by omega)
  unfold In; omega
theorem sumP_two {a b : Int} (ha : In a) : sumP [a, b] = if In (a + b) then (a + b, 0) else (0, 10) := by
  unfold sumP
  simp only [sumFrom, Int.zero_add]
  rw [if_pos ha]
  by_cases h : In (a + b)
  · rw [if_pos h, if_pos h]
  · rw [if_neg h, if_neg h]
theorem numSpread_walk (a b c : Int) (ha : -2147483648 ≤ a ∧ a ≤ 2147483647) (hb : -2147483648 ≤ b ∧ b ≤ 2147483647) (hc : -2147483648 ≤ c ∧ c ≤ 2147483647) (w : World) :
    Calls Try.prog 8 #[.int .i32 a, .int .i32 b, .int .i32 c] w fun e w' => e = .returned (.bool true) ∧ Below w.heap.size w w' := by
  have ia : In a := by unfold In; omega
  have ib : In b := by unfold In; omega
  have ic : In c := by unfold In; omega
  have is : In (a + b) := by unfold In; omega
  have iy := prod32 ha hc
  have iz := prod32 hb hc
  have H1 := Lib.hid (show sumP [a, b] = (a + b, 0) by rw [sumP_two ia, if_pos is])
  have H2 := Lib.hid (mulP_in iy)
  have H3 := Lib.hid (mulP_in iz)
  obtain ⟨x, f, hx⟩ : ∃ x f, mulP (a + b) c = (x, f) := ⟨_, _, rfl⟩
  have H5 := Lib.hid (show sumP [a * c, b * c] = (x, f) by rw [← hx, sumP_two iy, mulP, ← Int.add_mul])
  have H4 := Lib.hid hx
  have hn2 : (2 : Nat) ≤ 9223372036854775807 := by decide
  clear hx
  generalize a * c = y at *
  generalize b * c = z at *
  go_enter Try.func8, Try.ntmps8
  go_wp2_with fail
  refine (awake01 _).mono ?_
  rintro e w1 ⟨rfl, hb1⟩
  go_wp2_with fail
  refine (num_Sum_is _ _ _ [a, b] _ _ _ (Ints_new _ _ (by simp) [a, b] _ _ rfl (by simp [ia, ib]) hn2) H1.out).mono ?_
  rintro e w' ⟨rfl, rfl⟩
  go_wp2_with fail
  refine (num_Mul_is _ _ _ _ _ is ic H4.out).mono ?_
  rintro e w' ⟨rfl, rfl⟩
  go_wp2_with fail
  refine (num_Mul_is _ _ _ _ _ ia ic H2.out).mono ?_
  rintro e w' ⟨rfl, rfl⟩
  go_wp2_with fail
  refine (num_Mul_is _ _ _ _ _ ib ic H3.out).mono ?_
  rintro e w' ⟨rfl, rfl⟩
  go_wp2_with fail
  refine (num_Sum_is _ _ _ [y, z] _ _ _ (Ints_new _ _ (by simp) [y, z] _ _ rfl (by simp [iy, iz]) hn2) H5.out).mono ?_
  rintro e w' ⟨rfl, rfl⟩
  go_wp2_with fail
  go_ret
  have hz := hb1.size
  exact ⟨rfl, by repeat (first | exact hb1 | apply below_drewN | (refine Below.alloc ?_ (by first | omega | (simp; omega)) _))⟩
end Go.Proofs.Ytangogkmilpfiaa
