/- THE WALKS of layer 2 (ratio): each function of the program, once. -/
import Derived.Test.YtnjckaifgmliaaaNum
import Derived.Test.YtnjckaifgmliaaaMem
import Derived.Test.YtnjckaifgmliaaaPlainRatio
set_option linter.unusedSimpArgs false
set_option linter.unusedVariables false
namespace Go.Proofs.Ytnjckaifgmliaaa
open Go.RowKit Lu

/-- ratio.zero. -/
theorem ratio_zero (w : World) :
    Calls Try.prog 93 #[] w fun e w' => e = .returned (.agg #[.int .i64 0, .int .i64 1]) ∧ Below w.heap.size w w' := by
  go_enter Try.func93, Try.ntmps93
  go_wp2
  go_returns
  exact ⟨rfl, by go_grown⟩

/-- ratio.Make. -/
theorem ratio_Make (n d : Int) (hn : In n) (hd : In d) (w : World) :
    Calls Try.prog 58 #[.int .i64 n, .int .i64 d] w fun e w' => e = .returned (.tuple #[.agg #[.int .i64 (mkP n d).1.1, .int .i64 (mkP n d).1.2], .int .i64 (mkP n d).2]) ∧ Below w.heap.size w w' := by
  by_cases c : d ≤ 0
  · rw [mkP_zero c]
    go_enter Try.func58, Try.ntmps58
    go_wp2
    go_returns
    exact ⟨rfl, by go_grown⟩
  by_cases n0 : n = 0
  · subst n0
    rw [mkP_none (by omega)]
    go_enter Try.func58, Try.ntmps58
    go_wp2_with fail
    refine (ratio_zero _).mono ?_
    rintro e w1 ⟨rfl, hb1⟩
    obtain ⟨hc1, hf1⟩ := old_cells hb1
    have hz1 := hb1.size
    go_wp2_with fail
    refine bodyPost_ret (v := .tuple #[.agg #[.int .i64 0, .int .i64 1], .int .i64 0]) (by simp [results, Try.results58, go_sem, hc1]) rfl ⟨rfl, ?_⟩
    have hB : Below w.heap.size w w1 := ((Below.refl _ _).alloc (Nat.le_refl _) _).trans (hb1.mono (by simp))
    go_grown
  have hg := gcdP_pos (n := n) (d := d) (by omega) hd
  have hgr := gcdP_range hn hd
  have hq := tdiv_pos_range hn hg
  have hr := ediv_range hd hg
  have hr0 : 0 ≤ d / gcdP n d := Int.ediv_nonneg (by omega) (by omega)
  have dn : (n == 0) = false := by simp [n0]
  have res : (2147483647 < n.tdiv (gcdP n d) ∧ mkP n d = ((0, 0), 10)) ∨ (n.tdiv (gcdP n d) < -2147483647 ∧ mkP n d = ((0, 0), 10)) ∨
      (-2147483647 ≤ n.tdiv (gcdP n d) ∧ n.tdiv (gcdP n d) ≤ 2147483647 ∧ 2147483647 < d / gcdP n d ∧ mkP n d = ((0, 0), 10)) ∨
      (-2147483647 ≤ n.tdiv (gcdP n d) ∧ n.tdiv (gcdP n d) ≤ 2147483647 ∧ d / gcdP n d ≤ 2147483647 ∧ mkP n d = ((n.tdiv (gcdP n d), d / gcdP n d), 0)) := by
    by_cases c1 : 2147483647 < n.tdiv (gcdP n d)
    · exact Or.inl ⟨c1, mkP_over (by omega) n0 (Or.inl c1)⟩
    · by_cases c2 : n.tdiv (gcdP n d) < -2147483647
      · exact Or.inr (Or.inl ⟨c2, mkP_over (by omega) n0 (Or.inr (Or.inl c2))⟩)
      · by_cases c3 : 2147483647 < d / gcdP n d
        · exact Or.inr (Or.inr (Or.inl ⟨by omega, by omega, c3, mkP_over (by omega) n0 (Or.inr (Or.inr c3))⟩))
        · exact Or.inr (Or.inr (Or.inr ⟨by omega, by omega, by omega, mkP_in (by omega) n0 (by omega)⟩))
  have hgcd := num_Gcd n d hn hd
  have HG := Lib.hid hgcd
  clear hgcd
  have hd' := hd
  unfold In at hd' hgr hq hr
  generalize gcdP n d = g at *
  have wq : IntKind.i64.wrap (n.tdiv g) = n.tdiv g := IntWalk.i64_in _ hq
  rcases res with ⟨c1, rv⟩ | ⟨c1, rv⟩ | ⟨c1, c2, c3, rv⟩ | ⟨c1, c2, c3, rv⟩
  all_goals
    rw [rv]
    clear rv
    have HQ := Lib.hid hq
    clear hq
    go_enter Try.func58, Try.ntmps58
    go_wp2_with fail
    refine (HG.out _).mono ?_
    rintro e w1 ⟨rfl, n1, rfl⟩
    go_wp2_with fail
    go_quiet (fail)
    go_wp2_with fail
    go_returns
    exact ⟨rfl, by go_grown <;> rw [below_drewN_iff] <;> go_grown⟩

theorem ratio_Make_is (n d x y e : Int) (w : World) (hn : In n) (hd : In d) (h : mkP n d = ((x, y), e)) :
    Calls Try.prog 58 #[.int .i64 n, .int .i64 d] w fun r w' => r = .returned (.tuple #[.agg #[.int .i64 x, .int .i64 y], .int .i64 e]) ∧ Below w.heap.size w w' := by
  have := ratio_Make n d hn hd w
  rwa [h] at this

/-- ratio.Check. -/
theorem ratio_Check_yes (n d : Int) (h : Ok n d) (w : World) :
    Calls Try.prog 29 #[.agg #[.int .i64 n, .int .i64 d]] w fun e w' => e = .returned (.bool true) ∧ Below w.heap.size w w' := by
  have hn : In n := by obtain ⟨h1, h2, h3, h4, h5⟩ := h; unfold In; omega
  have hd : In d := by obtain ⟨h1, h2, h3, h4, h5⟩ := h; unfold In; omega
  have HM := Lib.hid (mkP_ok h)
  go_enter Try.func29, Try.ntmps29
  go_wp2_with fail
  refine (ratio_Make_is n d n d 0 _ hn hd HM.out).mono ?_
  rintro e w1 ⟨rfl, hb1⟩
  have c0 : w1.cell? ⟨w.heap.size, 0, none⟩ = some (.int .i64 n) := (hb1.cell (p := ⟨w.heap.size, 0, none⟩) (by simp)).trans (by simp [go_sem])
  have c1 : w1.cell? ⟨w.heap.size, 1, none⟩ = some (.int .i64 d) := (hb1.cell (p := ⟨w.heap.size, 1, none⟩) (by simp)).trans (by simp [go_sem])
  have hz1 : w.heap.size < w1.heap.size := by have := hb1.size; simp at this; omega
  have hB : Below w.heap.size w w1 := ((Below.refl _ _).alloc (Nat.le_refl _) _).trans (hb1.mono (by simp))
  go_wp2_with fail
  go_ret
  exact ⟨rfl, by go_grown⟩
theorem ratio_Check_no (n d : Int) (hn : In n) (hd : In d) (h : ¬ Ok n d) (w : World) :
    Calls Try.prog 29 #[.agg #[.int .i64 n, .int .i64 d]] w fun e w' => e = .returned (.bool false) ∧ Below w.heap.size w w' := by
  obtain ⟨x, y, e, hm⟩ : ∃ x y e, mkP n d = ((x, y), e) := ⟨_, _, _, rfl⟩
  have ways : (e == 0) = false ∨ ((e == 0) = true ∧ (x == n) = false) ∨ ((e == 0) = true ∧ (x == n) = true ∧ (y == d) = false) := by
    by_cases he : e = 0
    · subst he
      by_cases hx : x = n
      · by_cases hy : y = d
        · subst hx; subst hy
          exact absurd (mkP_is_ok hn hd hm).1 h
        · exact Or.inr (Or.inr (by simp [hx, hy]))
      · exact Or.inr (Or.inl (by simp [hx]))
    · exact Or.inl (by simp [he])
  have HM := Lib.hid hm
  clear hm
  rcases ways with t1 | ⟨t1, t2⟩ | ⟨t1, t2, t3⟩
  all_goals
    go_enter Try.func29, Try.ntmps29
    go_wp2_with fail
    refine (ratio_Make_is n d x y e _ hn hd HM.out).mono ?_
    rintro e w1 ⟨rfl, hb1⟩
    have c0 : w1.cell? ⟨w.heap.size, 0, none⟩ = some (.int .i64 n) := (hb1.cell (p := ⟨w.heap.size, 0, none⟩) (by simp)).trans (by simp [go_sem])
    have c1 : w1.cell? ⟨w.heap.size, 1, none⟩ = some (.int .i64 d) := (hb1.cell (p := ⟨w.heap.size, 1, none⟩) (by simp)).trans (by simp [go_sem])
    have hz1 : w.heap.size < w1.heap.size := by have := hb1.size; simp at this; omega
    have hB : Below w.heap.size w w1 := ((Below.refl _ _).alloc (Nat.le_refl _) _).trans (hb1.mono (by simp))
    go_wp2_with fail
    go_ret
    exact ⟨rfl, by go_grown⟩
end Go.Proofs.Ytnjckaifgmliaaa
