/- THE HEAD OF THE STATEMENTS of layer 9: 'awake' returns true; 'square' of a table. -/
import Derived.Test.YtjcfflpiajefmaaEmpty
import Derived.Test.YtjcfflpiajefmaaRef09C
set_option linter.unusedSimpArgs false
set_option linter.unusedVariables false
namespace Go.Proofs.Ytjcfflpiajefmaa
open Go.RowKit Lu

def s9 : Setup := ⟨4, [(0, 1, 5), (1, 2, 4), (0, 2, 10)], 1, 1, [], [], [], 0, 1, 60, 0, 0, 0, 0, 0, 0, 0, 0, [1], 0, 0, 0, []⟩
def q9 (N : Nat) : Slices := ⟨some ⟨N, 0, none⟩, 3, 3, none, 0, 0, none, 0, 0, none, 0, 0, some ⟨N + 1, 0, none⟩, 1, 1, none, 0, 0⟩
theorem setupIs_9 (w : World) (N : Nat) (hlt : N + 1 < w.heap.size) (h0 : ∀ j : Nat, j < 9 → w.cell? ⟨N, j, none⟩ = some (.int .i64 ([0, 1, 5, 1, 2, 4, 0, 2, 10].getD j 0))) (h1 : w.cell? ⟨N + 1, 0, none⟩ = some (.int .i64 1)) : SetupIs w s9 (q9 N) := by
  refine ⟨by decide, by decide, by decide, by decide, by decide, by decide, by decide, by decide, by decide, by decide, by decide, by decide, by decide, by decide, by decide, by decide, by decide, ?_, Recs4_none w, Ratios_none w, Ratios_none w, ?_, Ratios_none w⟩
  · show Recs3 w (some ⟨N, 0, none⟩) 3 [(0, 1, 5), (1, 2, 4), (0, 2, 10)]
    refine ⟨rfl, by decide, by simp [In], .inr ⟨N, 0, rfl, by omega, fun i hi => ?_⟩⟩
    rcases (show i = 0 ∨ i = 1 ∨ i = 2 by omega) with rfl | rfl | rfl
    · exact ⟨h0 0 (by decide), h0 1 (by decide), h0 2 (by decide)⟩
    · exact ⟨h0 3 (by decide), h0 4 (by decide), h0 5 (by decide)⟩
    · exact ⟨h0 6 (by decide), h0 7 (by decide), h0 8 (by decide)⟩
  · show Ints w (some ⟨N + 1, 0, none⟩) 1 [1]
    refine ⟨rfl, by decide, by simp [In], .inr ⟨N + 1, 0, rfl, fun i hi => ?_⟩⟩
    obtain rfl : i = 0 := by omega
    exact h1
theorem t9 : tableP 4 s9.ways 0 0 = 0 ∧ tableP 4 s9.ways 0 1 = 5 ∧ tableP 4 s9.ways 0 2 = 9 ∧ tableP 4 s9.ways 0 3 = -1 := by decide +kernel
set_option maxRecDepth 100000 in
set_option maxHeartbeats 4000000 in
theorem awake09 (w : World) :
    Calls Try.prog 19 #[] w fun e w' => e = .returned (.bool true) ∧ Below w.heap.size w w' := by
  have hb0 : (((w.alloc (.cells #[.int .i64 0, .int .i64 1, .int .i64 5, .int .i64 1, .int .i64 2, .int .i64 4, .int .i64 0, .int .i64 2, .int .i64 10] 55)).alloc (.cells #[.int .i64 1] 3)).alloc (.cells #[.int .i64 4, .slice (some ⟨w.heap.size, 0, none⟩) 3 3, .int .i64 1, .int .i64 1, .slice none 0 0, .slice none 0 0, .slice none 0 0, .int .i64 0, .int .i64 1, .int .i64 60, .int .i64 0, .int .i64 0, .int .i64 0, .int .i64 0, .int .i64 0, .int .i64 0, .int .i64 0, .int .i64 0, .slice (some ⟨w.heap.size + 1, 0, none⟩) 1 1, .int .i64 0, .int .i64 0, .int .i64 0, .slice none 0 0] 30)).heap[w.heap.size + 1 + 1]? = some (.cells #[.int .i64 4, .slice (some ⟨w.heap.size, 0, none⟩) 3 3, .int .i64 1, .int .i64 1, .slice none 0 0, .slice none 0 0, .slice none 0 0, .int .i64 0, .int .i64 1, .int .i64 60, .int .i64 0, .int .i64 0, .int .i64 0, .int .i64 0, .int .i64 0, .int .i64 0, .int .i64 0, .int .i64 0, .slice (some ⟨w.heap.size + 1, 0, none⟩) 1 1, .int .i64 0, .int .i64 0, .int .i64 0, .slice none 0 0] 30) := box_new _ _ (by simp) _ _
  have hS0 : SetupIs (((w.alloc (.cells #[.int .i64 0, .int .i64 1, .int .i64 5, .int .i64 1, .int .i64 2, .int .i64 4, .int .i64 0, .int .i64 2, .int .i64 10] 55)).alloc (.cells #[.int .i64 1] 3)).alloc (.cells #[.int .i64 4, .slice (some ⟨w.heap.size, 0, none⟩) 3 3, .int .i64 1, .int .i64 1, .slice none 0 0, .slice none 0 0, .slice none 0 0, .int .i64 0, .int .i64 1, .int .i64 60, .int .i64 0, .int .i64 0, .int .i64 0, .int .i64 0, .int .i64 0, .int .i64 0, .int .i64 0, .int .i64 0, .slice (some ⟨w.heap.size + 1, 0, none⟩) 1 1, .int .i64 0, .int .i64 0, .int .i64 0, .slice none 0 0] 30)) s9 (q9 w.heap.size) := setupIs_9 _ w.heap.size (by simp) (by
    intro j hj
    rcases (show j = 0 ∨ j = 1 ∨ j = 2 ∨ j = 3 ∨ j = 4 ∨ j = 5 ∨ j = 6 ∨ j = 7 ∨ j = 8 by omega) with rfl | rfl | rfl | rfl | rfl | rfl | rfl | rfl | rfl <;> simp [go_sem]) (by simp [go_sem])
  have hB0 : Below w.heap.size w (((w.alloc (.cells #[.int .i64 0, .int .i64 1, .int .i64 5, .int .i64 1, .int .i64 2, .int .i64 4, .int .i64 0, .int .i64 2, .int .i64 10] 55)).alloc (.cells #[.int .i64 1] 3)).alloc (.cells #[.int .i64 4, .slice (some ⟨w.heap.size, 0, none⟩) 3 3, .int .i64 1, .int .i64 1, .slice none 0 0, .slice none 0 0, .slice none 0 0, .int .i64 0, .int .i64 1, .int .i64 60, .int .i64 0, .int .i64 0, .int .i64 0, .int .i64 0, .int .i64 0, .int .i64 0, .int .i64 0, .int .i64 0, .slice (some ⟨w.heap.size + 1, 0, none⟩) 1 1, .int .i64 0, .int .i64 0, .int .i64 0, .slice none 0 0] 30)) := by go_grown
  have hZ0 : w.heap.size + 2 < (((w.alloc (.cells #[.int .i64 0, .int .i64 1, .int .i64 5, .int .i64 1, .int .i64 2, .int .i64 4, .int .i64 0, .int .i64 2, .int .i64 10] 55)).alloc (.cells #[.int .i64 1] 3)).alloc (.cells #[.int .i64 4, .slice (some ⟨w.heap.size, 0, none⟩) 3 3, .int .i64 1, .int .i64 1, .slice none 0 0, .slice none 0 0, .slice none 0 0, .int .i64 0, .int .i64 1, .int .i64 60, .int .i64 0, .int .i64 0, .int .i64 0, .int .i64 0, .int .i64 0, .int .i64 0, .int .i64 0, .int .i64 0, .slice (some ⟨w.heap.size + 1, 0, none⟩) 1 1, .int .i64 0, .int .i64 0, .int .i64 0, .slice none 0 0] 30)).heap.size := by simp
  have HS0 := Lib.hid hS0
  clear hS0
  go_enter Try.func19, Try.ntmps19
  go_wp2_with (first
    | (refine wpList_store_new _ _ _ rfl 30 (.tmp 1) (.tmp 9) rfl #[.int .i64 4, .slice (some ⟨w.heap.size, 0, none⟩) 3 3, .int .i64 1, .int .i64 1, .slice none 0 0, .slice none 0 0, .slice none 0 0, .int .i64 0, .int .i64 1, .int .i64 60, .int .i64 0, .int .i64 0, .int .i64 0, .int .i64 0, .int .i64 0, .int .i64 0, .int .i64 0, .int .i64 0, .slice (some ⟨w.heap.size + 1, 0, none⟩) 1 1, .int .i64 0, .int .i64 0, .int .i64 0, .slice none 0 0] (w.heap.size + 1 + 1) (by simp) rfl rfl rfl setup_size (by kernel_rfl) ?_)
    | (refine wpList_load_box 30 (.tmp 1) rfl rfl (w.heap.size + 1 + 1) rfl 30 #[.int .i64 4, .slice (some ⟨w.heap.size, 0, none⟩) 3 3, .int .i64 1, .int .i64 1, .slice none 0 0, .slice none 0 0, .slice none 0 0, .int .i64 0, .int .i64 1, .int .i64 60, .int .i64 0, .int .i64 0, .int .i64 0, .int .i64 0, .int .i64 0, .int .i64 0, .int .i64 0, .int .i64 0, .slice (some ⟨w.heap.size + 1, 0, none⟩) 1 1, .int .i64 0, .int .i64 0, .int .i64 0, .slice none 0 0] hb0 setup_big ?_))
  refine (way_Table s9 (q9 w.heap.size) _ HS0.out (by decide +kernel)).mono ?_
  rintro e w1 ⟨o, base, rb, rfl, ht, ho1, ho2, k1⟩
  have hb1 := box_keep k1 hb0 (by omega)
  have HS1 := Lib.hid (HS0.out.below k1)
  have B1 := hB0.trans (k1.mono (by omega))
  have z1 := Nat.lt_of_lt_of_le hZ0 k1.size
  have c0 := ht.hdr 0 (by decide)
  have d0 := ht.cell 0 0 (by decide) (by decide)
  have d1 := ht.cell 0 1 (by decide) (by decide)
  have d2 := ht.cell 0 2 (by decide) (by decide)
  have d3 := ht.cell 0 3 (by decide) (by decide)
  have e4 : s9.places.toNat = 4 := rfl
  rw [e4] at c0 d0 d1 d2 d3
  rw [t9.1] at d0
  rw [t9.2.1] at d1
  rw [t9.2.2.1] at d2
  rw [t9.2.2.2] at d3
  clear hb0 HS0 hB0 hZ0 k1 ht e4
  go_wp2_with (refine wpList_load_box 30 (.tmp 1) rfl rfl (w.heap.size + 1 + 1) rfl 30 #[.int .i64 4, .slice (some ⟨w.heap.size, 0, none⟩) 3 3, .int .i64 1, .int .i64 1, .slice none 0 0, .slice none 0 0, .slice none 0 0, .int .i64 0, .int .i64 1, .int .i64 60, .int .i64 0, .int .i64 0, .int .i64 0, .int .i64 0, .int .i64 0, .int .i64 0, .int .i64 0, .int .i64 0, .slice (some ⟨w.heap.size + 1, 0, none⟩) 1 1, .int .i64 0, .int .i64 0, .int .i64 0, .slice none 0 0] hb1 setup_big ?_)
  refine (way_Dist s9 (q9 w.heap.size) 2 0 9 _ HS1.out (by decide +kernel)).mono ?_
  rintro e w2 ⟨rfl, k2⟩
  have hb2 := box_keep k2 hb1 (by omega)
  have HS2 := Lib.hid (HS1.out.below k2)
  have B2 := B1.trans (k2.mono (by omega))
  have z2 := Nat.lt_of_lt_of_le z1 k2.size
  clear hb1 HS1 B1 z1 k2 c0 d0 d1 d2 d3
  go_wp2_with (refine wpList_load_box 30 (.tmp 1) rfl rfl (w.heap.size + 1 + 1) rfl 30 #[.int .i64 4, .slice (some ⟨w.heap.size, 0, none⟩) 3 3, .int .i64 1, .int .i64 1, .slice none 0 0, .slice none 0 0, .slice none 0 0, .int .i64 0, .int .i64 1, .int .i64 60, .int .i64 0, .int .i64 0, .int .i64 0, .int .i64 0, .int .i64 0, .int .i64 0, .int .i64 0, .int .i64 0, .slice (some ⟨w.heap.size + 1, 0, none⟩) 1 1, .int .i64 0, .int .i64 0, .int .i64 0, .slice none 0 0] hb2 setup_big ?_)
  refine (way_Dist s9 (q9 w.heap.size) 4 0 (-1) _ HS2.out (by decide +kernel)).mono ?_
  rintro e w3 ⟨rfl, k3⟩
  have B3 := B2.trans (k3.mono (by omega))
  clear hb2 HS2 B2 z2 k3
  go_wp2_with fail
  refine (way_Table_no sE qE _ (setupIs_E _) (by decide +kernel)).mono ?_
  rintro e w4 ⟨rfl, k4⟩
  have B4 := B3.trans (k4.mono B3.size)
  clear k4 B3
  go_wp2_with fail
  go_ret
  exact ⟨rfl, B4⟩
theorem law9_square (o P c : Nat) (rb cp : Nat → Nat) (t : Nat → Nat → Int) (n : Int) (hn : n = P) (hP : P ≤ 16) (W : World) (h : TabR W o P P rb cp t) :
    Calls Try.prog 26 #[.slice (some ⟨o, 0, none⟩) P c, .int .i64 n] W fun e w' => e = .returned (.bool true) ∧ w' = W := by
  subst hn
  have H := Lib.hid h
  clear h
  have hP0 : (0 : Int) ≤ (P : Int) := by omega
  go_enter Try.func26, Try.ntmps26
  go_wp2_with fail
  go_loopw [5] (fun i wr => ∃ k : Nat, k ≤ P ∧ i = .int .i64 k ∧ wr = W) (fun i _ => P - (intOf i).toNat)
  case atStart => exact ⟨0, by omega, rfl, rfl⟩
  case round =>
    obtain ⟨k, hk, rfl, rfl⟩ := hrel
    by_cases hlt : k < P
    · have hk0 : (0 : Int) ≤ (k : Int) := by omega
      have hk1 : (k : Int) < (P : Int) := by omega
      have c1 := H.out.hdr k hlt
      go_wp2_with fail
      go_roundw
      case rel => exact ⟨k + 1, by omega, by go_num, by first | rfl | trivial⟩
      case measure => simp [intOf]; omega
    · obtain rfl : P = k := by omega
      go_wp2_with fail
      go_ret
      first | exact ⟨rfl, rfl⟩ | exact ⟨rfl, trivial⟩

end Go.Proofs.Ytjcfflpiajefmaa
