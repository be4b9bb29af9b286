/- THE WALK of NumTurns: it returns true, and turns nothing that was there. -/
import Derived.Test.YtangogkmilpfiaaNumUp
namespace Go.Proofs.Ytangogkmilpfiaa
open Go.RowKit Lu

theorem sumP_pair (a b : Int) (ha : In a) (hb : In b) : sumP [a, b] = sumP [b, a] := by
  unfold sumP
  simp only [sumFrom, Int.zero_add]
  rw [if_pos ha, if_pos hb, Int.add_comm b a]
theorem turn_facts (a : Int) (ha : In a) : (mulP a (-1) = (0, 10) ∧ a = -9223372036854775808) ∨ (mulP a (-1) = (-a, 0) ∧ sumP [a, -a] = (0, 0) ∧ In (-a) ∧ a ≠ -9223372036854775808) := by
  have ha' := ha
  unfold In at ha'
  by_cases h : a = -9223372036854775808
  · left; subst h; decide
  · right
    have hn : In (-a) := by unfold In; omega
    refine ⟨?_, ?_, hn, h⟩
    · rw [mulP_in (by rw [show a * -1 = -a from by omega]; exact hn), show a * -1 = -a from by omega]
    · have h0 : In (a + -a) := by rw [Int.add_right_neg]; decide
      unfold sumP
      simp only [sumFrom, Int.zero_add]
      rw [if_pos ha, if_pos h0, Int.add_right_neg]

/-- NumTurns. -/
theorem numTurns_walk (a b : Int) (ha : In a) (hb : In b) (w : World) :
    Calls Try.prog 4 #[.int .i64 a, .int .i64 b] w fun e w' => e = .returned (.bool true) ∧ Below w.heap.size w w' := by
  have hm : mulP b a = mulP a b := mulP_comm b a
  have hs : sumP [b, a] = sumP [a, b] := sumP_pair b a hb ha
  have h1 : In (-1) := by decide
  have hn2 : (2 : Nat) ≤ 9223372036854775807 := by decide
  have tf := turn_facts a ha
  obtain ⟨o, i, ho⟩ : ∃ o i, mulP a (-1) = (o, i) := ⟨_, _, rfl⟩
  obtain ⟨m, e, hme⟩ : ∃ m e, mulP a b = (m, e) := ⟨_, _, rfl⟩
  obtain ⟨s, g, hsg⟩ : ∃ s g, sumP [a, b] = (s, g) := ⟨_, _, rfl⟩
  obtain ⟨z, j, hzj⟩ : ∃ z j, sumP [a, o] = (z, j) := ⟨_, _, rfl⟩
  have ho' : In o := by have := mulP_range a (-1); rwa [ho] at this
  rw [hme] at hm
  rw [hsg] at hs
  have key : (i = 0 ∧ j = 0 ∧ z = 0 ∧ o = -a ∧ a ≠ -9223372036854775808) ∨ (i = 10 ∧ a = -9223372036854775808) := by
    rcases tf with ⟨t1, t2⟩ | ⟨t1, t2, t3, t4⟩
    · right
      rw [ho] at t1
      exact ⟨congrArg Prod.snd t1, t2⟩
    · left
      rw [ho] at t1
      have eo : o = -a := congrArg Prod.fst t1
      rw [eo, t2] at hzj
      exact ⟨congrArg Prod.snd t1, (congrArg Prod.snd hzj).symm, (congrArg Prod.fst hzj).symm, eo, t4⟩
  have H1 := Lib.hid ho
  have H2 := Lib.hid hme
  have H3 := Lib.hid hsg
  have H4 := Lib.hid hzj
  have H5 := Lib.hid hm
  have H6 := Lib.hid hs
  clear ho hme hsg hzj hm hs tf
  rcases key with ⟨rfl, rfl, rfl, hoa, hal⟩ | ⟨rfl, hal⟩
  all_goals
    first
    | (have hal' : (a == -9223372036854775808) = true := by simp [hal])
    | (have hal' : (a == -9223372036854775808) = false := by simp [hal])
    try (have HO := Lib.hid hoa; clear hoa)
    clear hal
    go_enter Try.func4, Try.ntmps4
    go_wp2_with fail
    refine (awake01 _).mono ?_
    rintro e w1 ⟨rfl, hb1⟩
    go_wp2_with fail
    refine (num_Mul_is _ _ _ _ _ ha hb H2.out).mono ?_
    rintro e w' ⟨rfl, rfl⟩
    go_wp2_with fail
    refine (num_Mul_is _ _ _ _ _ hb ha H5.out).mono ?_
    rintro e w' ⟨rfl, rfl⟩
    go_wp2_with fail
    refine (num_Sum_is _ _ _ [a, b] _ _ _ (Ints_new _ _ (by simp) [a, b] _ _ rfl (by simp [ha, hb]) hn2) H3.out).mono ?_
    rintro e w' ⟨rfl, rfl⟩
    go_wp2_with fail
    refine (num_Sum_is _ _ _ [b, a] _ _ _ (Ints_new _ _ (by simp) [b, a] _ _ rfl (by simp [ha, hb]) hn2) H6.out).mono ?_
    rintro e w' ⟨rfl, rfl⟩
    go_wp2_with fail
    refine (num_Mul_is _ _ _ _ _ ha h1 H1.out).mono ?_
    rintro e w' ⟨rfl, rfl⟩
    go_wp2_with fail
    refine (num_Sum_is _ _ _ [a, o] _ _ _ (Ints_new _ _ (by simp) [a, o] _ _ rfl (by simp [ha, ho']) hn2) H4.out).mono ?_
    rintro e w' ⟨rfl, rfl⟩
    go_wp2_with fail
    go_ret
    have hz := hb1.size
    exact ⟨rfl, by repeat (first | exact hb1 | apply below_drewN | (refine Below.alloc ?_ (by first | omega | (simp; omega)) _))⟩
end Go.Proofs.Ytangogkmilpfiaa
