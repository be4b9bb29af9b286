/- THE HEAD OF THE STATEMENTS of layer 19: 'awake' returns true. -/
import Derived.Test.YtjcfflpiajefmaaPayUp
import Derived.Laws.StructEq
import Derived.Test.YtjcfflpiajefmaaBlocks
set_option linter.unusedSimpArgs false
set_option linter.unusedVariables false
namespace Go.Proofs.Ytjcfflpiajefmaa
open Go.RowKit Lu

theorem all_range_eqI : ∀ (xs ys : List Int), xs.length = ys.length → ((List.range xs.length).all fun i => xs.getD i 0 == ys.getD i 0) = (xs == ys)
  | [], [], _ => rfl
  | x :: xs, y :: ys, h => by
    have ih := all_range_eqI xs ys (by simpa using h)
    rw [List.length_cons, List.range_succ_eq_map, List.all_cons, List.all_map]
    simp only [List.getD_cons_zero, Function.comp_def, List.getD_cons_succ, ih]
    simp [List.cons_beq_cons]
  | [], _ :: _, h => by simp at h
  | _ :: _, [], h => by simp at h
/-- Two arrays of ints are compared. -/
theorem run_equalIn_ints {P : Program} (w : World) (d : Nat) (t e : TypeId) (n : Nat) (ht : P.underlying t = some (.array n e)) (he : P.underlying e = some (.int .i64)) (hsz : ∀ w, (sizeOf e).run P w = .ok 1 w)
    (xs ys : List Int) (hx : xs.length = n) (hy : ys.length = n) :
    (Op.equalIn (d + 2) t (.agg (xs.map (Value.int .i64)).toArray) (.agg (ys.map (Value.int .i64)).toArray)).run P w = .ok (xs == ys) w := by
  rw [← all_range_eqI xs ys (hx.trans hy.symm), hx, List.range_eq_range', Op.equalIn]
  simp only [Sem.run_bind, run_underlying ht, Result.andThen_ok, hsz, Std.Legacy.Range.forIn_eq_forIn_range', Std.Legacy.Range.size, Nat.sub_zero, Nat.add_sub_cancel, Nat.div_one]
  have hl : ∀ i ∈ List.range' 0 n 1, i < n := fun i hi => by simpa using (List.mem_range'_1.1 hi).2
  generalize List.range' 0 n 1 = l at hl ⊢
  induction l with
  | nil => simp
  | cons i l ih =>
    have hi : i < n := hl i (by simp)
    have px : (part e (xs.map (Value.int .i64)).toArray (i * 1)).run P w = .ok (.int .i64 (xs.getD i 0)) w := by
      simp [part, isAgg, run_underlying he, List.getD, List.getElem?_eq_getElem (show i < xs.length by omega)]
    have py : (part e (ys.map (Value.int .i64)).toArray (i * 1)).run P w = .ok (.int .i64 (ys.getD i 0)) w := by
      simp [part, isAgg, run_underlying he, List.getD, List.getElem?_eq_getElem (show i < ys.length by omega)]
    have pe : (Op.equalIn (d + 1) e (.int .i64 (xs.getD i 0)) (.int .i64 (ys.getD i 0))).run P w = .ok (xs.getD i 0 == ys.getD i 0) w := run_equalIn_int w d e .i64 .i64 _ _ he
    simp only [List.forIn_cons, Sem.run_bind, px, py, pe, Result.andThen_ok, List.all_cons]
    cases hb : (xs.getD i 0 == ys.getD i 0)
    · simp
    · simp only [Bool.not_true, Bool.false_eq_true, if_false, Sem.run_pure, Result.andThen_ok, Bool.true_and]
      exact ih fun j hj => hl j (by simp [hj])
theorem size_int (w : World) : (sizeOf 3).run Try.prog w = .ok 1 w := by
  obtain ⟨i0, hi, _, hz1, _⟩ := info_parts infoInt
  simp [sizeOf, typeInfo, hi, hz1]
/-- Are seven numbers the same seven? -/
def eq7 (l l' : List Int) : Bool := l == l'
theorem run_eql_seven (w : World) (x0 x1 x2 x3 x4 x5 x6 y0 y1 y2 y3 y4 y5 y6 : Int) :
    (binOp .eql 31 (.agg #[.int .i64 x0, .int .i64 x1, .int .i64 x2, .int .i64 x3, .int .i64 x4, .int .i64 x5, .int .i64 x6]) (.agg #[.int .i64 y0, .int .i64 y1, .int .i64 y2, .int .i64 y3, .int .i64 y4, .int .i64 y5, .int .i64 y6])).run Try.prog w = .ok (.bool (eq7 [x0, x1, x2, x3, x4, x5, x6] [y0, y1, y2, y3, y4, y5, y6])) w := by
  rw [run_eql_struct]
  have := run_equalIn_ints (P := Try.prog) w 9998 31 3 7 Try.underlying31 Try.underlying3 size_int [x0, x1, x2, x3, x4, x5, x6] [y0, y1, y2, y3, y4, y5, y6] rfl rfl
  simp only [List.map_cons, List.map_nil] at this
  rw [this]
  rfl
theorem eq7_same (l : List Int) : eq7 l l = true := by unfold eq7; simp

def s0 : Setup := ⟨1, [], 1, 1, [], [], [], 0, 1, 60, 0, 0, 0, 0, 0, 0, 0, 0, [1500], 75, 5000, 0, [(1, 150)]⟩
def sE : Setup := ⟨0, [], 0, 0, [], [], [], 0, 0, 0, 0, 0, 0, 0, 0, 0, 0, 0, [], 0, 0, 0, []⟩
def qE : Slices := ⟨none, 0, 0, none, 0, 0, none, 0, 0, none, 0, 0, none, 0, 0, none, 0, 0⟩
def q0 (N : Nat) : Slices := ⟨none, 0, 0, none, 0, 0, none, 0, 0, none, 0, 0, some ⟨N, 0, none⟩, 1, 1, some ⟨N + 1, 0, none⟩, 1, 1⟩
theorem Recs3_none (w : World) : Recs3 w none 0 [] := ⟨rfl, by decide, by simp, .inl rfl⟩
theorem Recs4_none (w : World) : Recs4 w none 0 [] := ⟨rfl, by decide, by simp, .inl rfl⟩
theorem Ratios_none (w : World) : Ratios w none 0 [] := ⟨rfl, by decide, by simp, .inl rfl⟩
theorem Ints_none (w : World) : Ints w none 0 [] := ⟨rfl, by decide, by simp, .inl rfl⟩
theorem setupIs_E (w : World) : SetupIs w sE qE :=
  ⟨by decide, by decide, by decide, by decide, by decide, by decide, by decide, by decide, by decide, by decide, by decide, by decide, by decide, by decide, by decide, by decide, by decide, Recs3_none w, Recs4_none w, Ratios_none w, Ratios_none w, Ints_none w, Ratios_none w⟩
theorem setupIs_0 (w : World) (N : Nat) (hlt : N + 1 < w.heap.size) (h : w.cell? ⟨N, 0, none⟩ = some (.int .i64 1500)) (h1 : w.cell? ⟨N + 1, 0, none⟩ = some (.int .i64 1)) (h2 : w.cell? ⟨N + 1, 1, none⟩ = some (.int .i64 150)) : SetupIs w s0 (q0 N) := by
  refine ⟨by decide, by decide, by decide, by decide, by decide, by decide, by decide, by decide, by decide, by decide, by decide, by decide, by decide, by decide, by decide, by decide, by decide, Recs3_none w, Recs4_none w, Ratios_none w, Ratios_none w, ?_, ?_⟩
  · show Ints w (some ⟨N, 0, none⟩) 1 [1500]
    refine ⟨rfl, by decide, by simp [In], .inr ⟨N, 0, rfl, fun i hi => ?_⟩⟩
    obtain rfl : i = 0 := by omega
    exact h
  · show Ratios w (some ⟨N + 1, 0, none⟩) 1 [(1, 150)]
    refine ⟨rfl, by decide, by simp [In], .inr ⟨N + 1, 0, rfl, hlt, fun i hi => ?_⟩⟩
    obtain rfl : i = 0 := by omega
    exact ⟨h1, h2⟩

set_option maxRecDepth 100000 in
set_option maxHeartbeats 4000000 in
theorem awake19 (w : World) :
    Calls Try.prog 14 #[] w fun e w' => e = .returned (.bool true) ∧ Below w.heap.size w w' := by
  have hb0 : (((w.alloc (.cells #[.int .i64 1500] 3)).alloc (.cells #[.int .i64 1, .int .i64 150] 47)).alloc (.cells #[.int .i64 1, .slice none 0 0, .int .i64 1, .int .i64 1, .slice none 0 0, .slice none 0 0, .slice none 0 0, .int .i64 0, .int .i64 1, .int .i64 60, .int .i64 0, .int .i64 0, .int .i64 0, .int .i64 0, .int .i64 0, .int .i64 0, .int .i64 0, .int .i64 0, .slice (some ⟨w.heap.size, 0, none⟩) 1 1, .int .i64 75, .int .i64 5000, .int .i64 0, .slice (some ⟨w.heap.size + 1, 0, none⟩) 1 1] 30)).heap[w.heap.size + 1 + 1]? = some (.cells #[.int .i64 1, .slice none 0 0, .int .i64 1, .int .i64 1, .slice none 0 0, .slice none 0 0, .slice none 0 0, .int .i64 0, .int .i64 1, .int .i64 60, .int .i64 0, .int .i64 0, .int .i64 0, .int .i64 0, .int .i64 0, .int .i64 0, .int .i64 0, .int .i64 0, .slice (some ⟨w.heap.size, 0, none⟩) 1 1, .int .i64 75, .int .i64 5000, .int .i64 0, .slice (some ⟨w.heap.size + 1, 0, none⟩) 1 1] 30) := box_new _ _ (by simp) _ _
  have hS0 := setupIs_0 (((w.alloc (.cells #[.int .i64 1500] 3)).alloc (.cells #[.int .i64 1, .int .i64 150] 47)).alloc (.cells #[.int .i64 1, .slice none 0 0, .int .i64 1, .int .i64 1, .slice none 0 0, .slice none 0 0, .slice none 0 0, .int .i64 0, .int .i64 1, .int .i64 60, .int .i64 0, .int .i64 0, .int .i64 0, .int .i64 0, .int .i64 0, .int .i64 0, .int .i64 0, .int .i64 0, .slice (some ⟨w.heap.size, 0, none⟩) 1 1, .int .i64 75, .int .i64 5000, .int .i64 0, .slice (some ⟨w.heap.size + 1, 0, none⟩) 1 1] 30)) w.heap.size (by simp) (by simp [go_sem]) (by simp [go_sem]) (by simp [go_sem])
  have hB0 : Below w.heap.size w (((w.alloc (.cells #[.int .i64 1500] 3)).alloc (.cells #[.int .i64 1, .int .i64 150] 47)).alloc (.cells #[.int .i64 1, .slice none 0 0, .int .i64 1, .int .i64 1, .slice none 0 0, .slice none 0 0, .slice none 0 0, .int .i64 0, .int .i64 1, .int .i64 60, .int .i64 0, .int .i64 0, .int .i64 0, .int .i64 0, .int .i64 0, .int .i64 0, .int .i64 0, .int .i64 0, .slice (some ⟨w.heap.size, 0, none⟩) 1 1, .int .i64 75, .int .i64 5000, .int .i64 0, .slice (some ⟨w.heap.size + 1, 0, none⟩) 1 1] 30)) := by go_grown
  have hZ0 : w.heap.size + 2 < (((w.alloc (.cells #[.int .i64 1500] 3)).alloc (.cells #[.int .i64 1, .int .i64 150] 47)).alloc (.cells #[.int .i64 1, .slice none 0 0, .int .i64 1, .int .i64 1, .slice none 0 0, .slice none 0 0, .slice none 0 0, .int .i64 0, .int .i64 1, .int .i64 60, .int .i64 0, .int .i64 0, .int .i64 0, .int .i64 0, .int .i64 0, .int .i64 0, .int .i64 0, .int .i64 0, .slice (some ⟨w.heap.size, 0, none⟩) 1 1, .int .i64 75, .int .i64 5000, .int .i64 0, .slice (some ⟨w.heap.size + 1, 0, none⟩) 1 1] 30)).heap.size := by simp
  have HS0 := Lib.hid hS0
  clear hS0
  have e1 : eq7 [0, 1500, 0, 0, 0, 1163, 0] [0, 1500, 0, 0, 0, 1163, 0] = true := eq7_same _
  have hq := fun W => run_eql_seven W 0 1500 0 0 0 1163 0 0 1500 0 0 0 1163 0
  rw [e1] at hq
  go_enter Try.func14, Try.ntmps14
  go_wp2_with (first
    | (refine wpList_store_new _ _ _ rfl 30 (.tmp 1) (.tmp 21) rfl #[.int .i64 1, .slice none 0 0, .int .i64 1, .int .i64 1, .slice none 0 0, .slice none 0 0, .slice none 0 0, .int .i64 0, .int .i64 1, .int .i64 60, .int .i64 0, .int .i64 0, .int .i64 0, .int .i64 0, .int .i64 0, .int .i64 0, .int .i64 0, .int .i64 0, .slice (some ⟨w.heap.size, 0, none⟩) 1 1, .int .i64 75, .int .i64 5000, .int .i64 0, .slice (some ⟨w.heap.size + 1, 0, none⟩) 1 1] (w.heap.size + 1 + 1) (by simp) rfl rfl rfl setup_size (by kernel_rfl) ?_)
    | (refine wpList_load_box 30 (.tmp 1) rfl rfl (w.heap.size + 1 + 1) rfl 30 #[.int .i64 1, .slice none 0 0, .int .i64 1, .int .i64 1, .slice none 0 0, .slice none 0 0, .slice none 0 0, .int .i64 0, .int .i64 1, .int .i64 60, .int .i64 0, .int .i64 0, .int .i64 0, .int .i64 0, .int .i64 0, .int .i64 0, .int .i64 0, .int .i64 0, .slice (some ⟨w.heap.size, 0, none⟩) 1 1, .int .i64 75, .int .i64 5000, .int .i64 0, .slice (some ⟨w.heap.size + 1, 0, none⟩) 1 1] hb0 setup_big ?_))
  refine (pay_Of_is s0 (q0 w.heap.size) 0 100 3600 0 0 0 1800 0 1800 0 0 1500 0 0 0 1163 0 75 4762 7500 0 _ HS0.out (by decide +kernel)).mono ?_
  rintro e w1 ⟨rfl, k1⟩
  have hb1 := box_keep k1 hb0 (by omega)
  have HS1 := Lib.hid (HS0.out.below k1)
  have B1 := hB0.trans (k1.mono (by omega))
  have z1 := Nat.lt_of_lt_of_le hZ0 k1.size
  clear hb0 HS0 hB0 hZ0 k1
  have ha1 : Below w1.heap.size w1 (w1.alloc (.cells #[.int .i64 0, .int .i64 1500, .int .i64 0, .int .i64 0, .int .i64 0, .int .i64 1163, .int .i64 0] 31)) := by go_grown
  have hb2 := box_keep ha1 hb1 (by omega)
  clear hb1
  go_wp2_with (refine wpList_load_box 30 (.tmp 1) rfl rfl (w.heap.size + 1 + 1) rfl 30 #[.int .i64 1, .slice none 0 0, .int .i64 1, .int .i64 1, .slice none 0 0, .slice none 0 0, .slice none 0 0, .int .i64 0, .int .i64 1, .int .i64 60, .int .i64 0, .int .i64 0, .int .i64 0, .int .i64 0, .int .i64 0, .int .i64 0, .int .i64 0, .int .i64 0, .slice (some ⟨w.heap.size, 0, none⟩) 1 1, .int .i64 75, .int .i64 5000, .int .i64 0, .slice (some ⟨w.heap.size + 1, 0, none⟩) 1 1] hb2 setup_big ?_)
  refine (pay_Of_is s0 (q0 w.heap.size) 1 0 0 0 0 0 0 0 0 0 0 0 0 0 0 0 0 0 0 0 80 _ (HS1.out.below ha1) (by decide +kernel)).mono ?_
  rintro e w2 ⟨rfl, k2⟩
  have B2 := (B1.trans (ha1.mono (by omega))).trans (k2.mono (by simp; omega))
  have d0 : w2.cell? ⟨w1.heap.size, 0, none⟩ = some (.int .i64 0) := keepC k2 (by simp [go_sem]) (by simp)
  have d1 : w2.cell? ⟨w1.heap.size, 1, none⟩ = some (.int .i64 1500) := keepC k2 (by simp [go_sem]) (by simp)
  have d2 : w2.cell? ⟨w1.heap.size, 2, none⟩ = some (.int .i64 0) := keepC k2 (by simp [go_sem]) (by simp)
  have d3 : w2.cell? ⟨w1.heap.size, 3, none⟩ = some (.int .i64 0) := keepC k2 (by simp [go_sem]) (by simp)
  have d4 : w2.cell? ⟨w1.heap.size, 4, none⟩ = some (.int .i64 0) := keepC k2 (by simp [go_sem]) (by simp)
  have d5 : w2.cell? ⟨w1.heap.size, 5, none⟩ = some (.int .i64 1163) := keepC k2 (by simp [go_sem]) (by simp)
  have d6 : w2.cell? ⟨w1.heap.size, 6, none⟩ = some (.int .i64 0) := keepC k2 (by simp [go_sem]) (by simp)
  have z2 : w1.heap.size < w2.heap.size := by have := k2.size; simp at this; omega
  clear k2 HS1 hb2
  go_wp2_with fail
  refine (pay_Of_is sE qE 0 0 0 0 0 0 0 0 0 0 0 0 0 0 0 0 0 0 0 0 70 _ (setupIs_E _) (by decide +kernel)).mono ?_
  rintro e w3 ⟨rfl, k3⟩
  have B3 := (B2.trans ((Below.refl w2.heap.size w2).alloc (Nat.le_refl _) (.cells #[.int .i64 0, .int .i64 0, .int .i64 0, .int .i64 0, .int .i64 0, .int .i64 0, .int .i64 0] 31) |>.mono (by omega))).trans (k3.mono (by simp; omega))
  replace d0 := keepC k3 (keepA (.cells #[.int .i64 0, .int .i64 0, .int .i64 0, .int .i64 0, .int .i64 0, .int .i64 0, .int .i64 0] 31) d0) (by simp; omega)
  replace d1 := keepC k3 (keepA (.cells #[.int .i64 0, .int .i64 0, .int .i64 0, .int .i64 0, .int .i64 0, .int .i64 0, .int .i64 0] 31) d1) (by simp; omega)
  replace d2 := keepC k3 (keepA (.cells #[.int .i64 0, .int .i64 0, .int .i64 0, .int .i64 0, .int .i64 0, .int .i64 0, .int .i64 0] 31) d2) (by simp; omega)
  replace d3 := keepC k3 (keepA (.cells #[.int .i64 0, .int .i64 0, .int .i64 0, .int .i64 0, .int .i64 0, .int .i64 0, .int .i64 0] 31) d3) (by simp; omega)
  replace d4 := keepC k3 (keepA (.cells #[.int .i64 0, .int .i64 0, .int .i64 0, .int .i64 0, .int .i64 0, .int .i64 0, .int .i64 0] 31) d4) (by simp; omega)
  replace d5 := keepC k3 (keepA (.cells #[.int .i64 0, .int .i64 0, .int .i64 0, .int .i64 0, .int .i64 0, .int .i64 0, .int .i64 0] 31) d5) (by simp; omega)
  replace d6 := keepC k3 (keepA (.cells #[.int .i64 0, .int .i64 0, .int .i64 0, .int .i64 0, .int .i64 0, .int .i64 0, .int .i64 0] 31) d6) (by simp; omega)
  have z3 : w1.heap.size < w3.heap.size := by have := k3.size; simp at this; omega
  clear k3 B1 B2
  go_wp2_with fail
  go_ret
  exact ⟨rfl, by go_grown <;> omega⟩

end Go.Proofs.Ytjcfflpiajefmaa
