/- THE WALK of NumParts: it returns true, and turns nothing that was there. -/
import Derived.Test.YtangogkmilpfiaaNumUp
import Derived.Test.YtangogkmilpfiaaMem
namespace Go.Proofs.Ytangogkmilpfiaa
open Go.RowKit Lu

theorem sumP_append (a b : List Int) : sumP (a ++ b) = if (sumP a).2 = 0 then sumP ((sumP a).1 :: b) else (0, 10) := by
  unfold sumP
  rw [sumFrom_append]
  cases h : sumFrom 0 a with
  | none => simp
  | some s =>
    have hs : In s := sumFrom_in (by decide) h
    simp [sumFrom, hs]
theorem sumP_err (l : List Int) : (sumP l).2 = 0 ∨ sumP l = (0, 10) := by
  unfold sumP
  split <;> simp

theorem numParts_walk (a0 : Option Addr) (len0 cap0 : Nat) (z0 : List Int) (a1 : Option Addr) (len1 cap1 : Nat) (z1 : List Int) (w : World) (h0 : Ints w a0 len0 z0) (h1 : Ints w a1 len1 z1) :
    Calls Try.prog 6 #[.slice a0 len0 cap0, .slice a1 len1 cap1] w fun e w' => e = .returned (.bool true) ∧ Below w.heap.size w w' := by
  have l0 := h0.2.1
  have l1 := h1.2.1
  by_cases c0 : 1000 < len0
  · go_enter Try.func6, Try.ntmps6
    go_wp2_with fail
    refine (awake01 _).mono ?_
    rintro e w1 ⟨rfl, hb1⟩
    go_wp2_with fail
    go_ret
    exact ⟨rfl, hb1⟩
  by_cases c1 : 1000 < len1
  · have c0' : len0 ≤ 1000 := by omega
    go_enter Try.func6, Try.ntmps6
    go_wp2_with fail
    refine (awake01 _).mono ?_
    rintro e w1 ⟨rfl, hb1⟩
    go_wp2_with fail
    go_ret
    exact ⟨rfl, hb1⟩
  have c0' : len0 ≤ 1000 := by omega
  have c1' : len1 ≤ 1000 := by omega
  obtain ⟨i0, hi, hz0, hz1, hz2⟩ := info_parts infoInt
  obtain ⟨x, e, hxe⟩ : ∃ x e, sumP z0 = (x, e) := ⟨_, _, rfl⟩
  have inx : In x := by have := sumP_range z0; rwa [hxe] at this
  have hap := sumP_append z0 z1
  rw [hxe] at hap
  have her := sumP_err z0
  rw [hxe] at her
  go_enter Try.func6, Try.ntmps6
  go_wp2_with fail
  refine (awake01 _).mono ?_
  rintro e w1 ⟨rfl, hb1⟩
  go_wp2_with fail
  refine (num_Sum_is _ _ _ _ _ _ _ (h0.below hb1) hxe).mono ?_
  rintro e w' ⟨rfl, rfl⟩
  have r0 : ∀ W, Below w1.heap.size w1 W → Ints W a0 len0 z0 := fun W hW => (h0.below hb1).below hW
  have r1 : ∀ W, Below w1.heap.size w1 W → Ints W a1 len1 z1 := fun W hW => (h1.below hb1).below hW
  have R0 := Lib.hid r0
  have R1 := Lib.hid r1
  have HXE := Lib.hid hxe
  have HAP := Lib.hid hap
  have HER := Lib.hid her
  have n0 := h0.nil
  have n1 := h1.nil
  have e0 : (z0.map (Value.int .i64)).length = len0 * 1 := by rw [List.length_map, h0.1]; omega
  have e1 : (z1.map (Value.int .i64)).length = len1 * 1 := by rw [List.length_map, h1.1]; omega
  have N0 := Lib.hid n0
  have N1 := Lib.hid n1
  have E0 := Lib.hid e0
  have E1 := Lib.hid e1
  clear r0 r1 hxe hap her n0 n1 e0 e1
  have m1 : 0 + len0 ≤ maxLen := by unfold maxLen; omega
  have m2 : (0 + len0) * 8 ≤ 140737488355328 := by omega
  have m3 : (0 + len0) + len1 ≤ maxLen := by unfold maxLen; omega
  have m4 : ((0 + len0) + len1) * 8 ≤ 140737488355328 := by omega
  go_wp2_with (first
    | (at_builtin; (refine wpList_append_cells _ rfl (.tmp 28) (.tmp 29) 22 rfl w1.heap.size 3 i0 (.int .i64 0) 1 8 Try.underlying22 hi hz0 hz1 hz2 rfl (by decide) _ 0 [] rfl (own_empty w1 _ 1 _ _ (Nat.le_refl _) rfl) a0 len0 cap0 (z0.map (Value.int .i64)) rfl E0.out (R0.out _ ((Below.refl _ _).alloc (Nat.le_refl _) _)).cells N0.out (oneCell_ints z0) m1 m2 (by simp) ?_; intro v1 W1 own1 grow1))
    | (at_builtin; (refine wpList_append_cells _ rfl (.tmp 30) (.tmp 31) 22 rfl w1.heap.size 3 i0 (.int .i64 0) 1 8 Try.underlying22 hi hz0 hz1 hz2 rfl (by decide) _ (0 + len0) _ rfl own1 a1 len1 cap1 (z1.map (Value.int .i64)) rfl E1.out (R1.out _ (below_own ((Below.refl _ _).alloc (Nat.le_refl _) _) (own_empty w1 _ 1 _ _ (Nat.le_refl _) rfl) grow1 (Nat.le_refl _) (by simp))).cells N1.out (oneCell_ints z1) m3 m4 (by have := grow1.size; simp at this; omega) ?_; intro v2 W2 own2 grow2)))
  have below1 := below_own (B := w1.heap.size) ((Below.refl _ w1).alloc (Nat.le_refl _) _) (own_empty w1 _ 1 _ _ (Nat.le_refl _) rfl) grow1 (Nat.le_refl _) (by simp)
  have below2 := below_own below1 own1 grow2 (Nat.le_refl _) below1.size
  obtain ⟨A2, C2, hv2, cells2⟩ := Cells.of_own own2
  have I2 : Ints W2 A2 (0 + len0 + len1) (z0 ++ z1) := .of_cells (by rw [List.length_append, h0.1, h1.1]; omega) (by omega) (fun z hz => (List.mem_append.1 hz).elim (h0.2.2.1 z) (h1.2.2.1 z)) (by rw [List.map_append]; simpa using cells2)
  obtain ⟨al, f, haf⟩ : ∃ al f, sumP (z0 ++ z1) = (al, f) := ⟨_, _, rfl⟩
  clear own1 own2 grow1 grow2 cells2
  rw [hv2]
  clear hv2
  refine (num_Sum_is _ _ _ _ _ _ _ I2 haf).mono ?_
  rintro e w' ⟨rfl, rfl⟩
  have HAF := Lib.hid haf
  clear haf
  have z2 := below2.size
  have n1' : 1 + len1 ≤ maxLen := by unfold maxLen; omega
  have n2' : (1 + len1) * 8 ≤ 140737488355328 := by omega
  go_wp2_with (first
    | (at_builtin; go_loud (refine wpList_append_cells _ rfl (.tmp 38) (.tmp 39) 22 rfl W2.heap.size 3 i0 (.int .i64 0) 1 8 Try.underlying22 hi hz0 hz1 hz2 rfl (by decide) _ 1 [.int .i64 x] rfl (own_full W2 _ 1 _ _ 1 [.int .i64 x] (Nat.le_refl _) rfl rfl (by decide)) a1 len1 cap1 (z1.map (Value.int .i64)) rfl E1.out (R1.out _ (below2.alloc z2 _)).cells N1.out (oneCell_ints z1) n1' n2' (by simp) ?_; intro v3 W3 own3 grow3)))
  have below3 := below_own (below2.alloc z2 _) (own_full W2 _ 1 _ _ 1 [.int .i64 x] (Nat.le_refl _) rfl rfl (by decide)) grow3 z2 (by simp)
  obtain ⟨A3, C3, hv3, cells3⟩ := Cells.of_own own3
  have I3 : Ints W3 A3 (1 + len1) (x :: z1) := .of_cells (by rw [List.length_cons, h1.1]; omega) (by omega) (by
    intro z hz
    rcases List.mem_cons.1 hz with rfl | hz
    · exact inx
    · exact h1.2.2.1 z hz) (by simpa using cells3)
  obtain ⟨y, g, hyg⟩ : ∃ y g, sumP (x :: z1) = (y, g) := ⟨_, _, rfl⟩
  clear own3 grow3 cells3
  rw [hv3]
  clear hv3
  refine (num_Sum_is _ _ _ _ _ _ _ I3 hyg).mono ?_
  rintro e w' ⟨rfl, rfl⟩
  have HYG := Lib.hid hyg
  clear hyg
  have hap := HAP.out
  rw [HAF.out, HYG.out] at hap
  have HB : Below w.heap.size w W3 := hb1.trans (below3.mono hb1.size)
  rcases HER.out with her | her
  · subst her
    rw [if_pos rfl] at hap
    obtain ⟨rfl, rfl⟩ := Prod.mk.inj hap
    go_wp2_with fail
    go_ret
    exact ⟨rfl, HB⟩
  · obtain ⟨rfl, rfl⟩ := Prod.mk.inj her
    rw [if_neg (by decide)] at hap
    obtain ⟨rfl, rfl⟩ := Prod.mk.inj hap
    go_wp2_with fail
    go_ret
    exact ⟨rfl, HB⟩
end Go.Proofs.Ytangogkmilpfiaa
