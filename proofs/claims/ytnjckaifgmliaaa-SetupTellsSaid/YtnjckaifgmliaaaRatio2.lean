/- THE WALKS of layer 2 (ratio), on: what two ratios make. -/
import Derived.Test.YtnjckaifgmliaaaRatio
set_option linter.unusedSimpArgs false
set_option linter.unusedVariables false
namespace Go.Proofs.Ytnjckaifgmliaaa
open Go.RowKit Lu

/-- ratio.two, with a closure over two ratios. -/
theorem ratio_two (a1 a2 b1 b2 x y : Int) (f : Nat) (p q : Addr) (w : World) (ha1 : In a1) (ha2 : In a2) (hb1 : In b1) (hb2 : In b2)
    (hf : ∀ (args : Array Value) (W : World), (callFunc f args).run Try.prog W = .ok (.enter f args) W)
    (hcl : Ok a1 a2 → Ok b1 b2 → In x ∧ In y ∧ ∀ W, Below w.heap.size w W → Calls Try.prog f #[.pointer (some p), .pointer (some q)] W fun e W' => e = .returned (.tuple #[.int .i64 x, .int .i64 y]) ∧ ∃ k, W' = W.drewN k) :
    Calls Try.prog 68 #[.agg #[.int .i64 a1, .int .i64 a2], .agg #[.int .i64 b1, .int .i64 b2], .func (.func f) #[] #[.pointer (some p), .pointer (some q)]] w fun e w' =>
      e = .returned (.tuple #[.agg #[.int .i64 (twoP a1 a2 b1 b2 x y).1.1, .int .i64 (twoP a1 a2 b1 b2 x y).1.2], .int .i64 (twoP a1 a2 b1 b2 x y).2]) ∧ Below w.heap.size w w' := by
  by_cases oa : Ok a1 a2
  · by_cases ob : Ok b1 b2
    · obtain ⟨hx, hy, hc⟩ := hcl oa ob
      have hv : twoP a1 a2 b1 b2 x y = mkP x y := by rw [twoP, if_pos ⟨oa, ob⟩]
      rw [hv]
      obtain ⟨u, v, e, hm⟩ : ∃ u v e, mkP x y = ((u, v), e) := ⟨_, _, _, rfl⟩
      rw [hm]
      have HM := Lib.hid hm
      have HC := Lib.hid hc
      clear hm hv hc hcl
      go_enter Try.func68, Try.ntmps68
      go_wp2_with fail
      refine (ratio_Check_yes a1 a2 oa _).mono ?_
      rintro e1 w1 ⟨rfl, k1⟩
      have z1 : w.heap.size + 2 < w1.heap.size := by have := k1.size; simp at this; omega
      have B1 : Below (w.heap.size + 3) (((w.alloc (.cells #[.int .i64 a1, .int .i64 a2] 24)).alloc (.cells #[.int .i64 b1, .int .i64 b2] 24)).alloc (.cells #[.int .i64 0, .int .i64 0] 24)) w1 := k1.mono (by simp)
      obtain ⟨hc1, hf1⟩ := old_cells B1
      go_wp2_with fail
      refine (ratio_Check_yes b1 b2 ob _).mono ?_
      rintro e2 w2 ⟨rfl, k2⟩
      have B2 := B1.trans (k2.mono (by omega))
      have z2 : w.heap.size + 2 < w2.heap.size := by have := k2.size; omega
      have hB : Below w.heap.size w w2 := by
        refine Below.trans ?_ (B2.mono (by omega))
        go_grown
      clear k1 k2 hc1 hf1 B1 z1
      go_wp2_with fail
      refine (HC.out _ hB).mono ?_
      rintro e3 w3 ⟨rfl, k3, rfl⟩
      go_wp2_with fail
      refine (ratio_Make_is x y u v e _ hx hy HM.out).mono ?_
      rintro e4 w4 ⟨rfl, k4⟩
      have B4 := B2.trans ((below_drewN (Below.refl _ _) k3).trans (k4.mono (by simp; omega)))
      have z4 : w.heap.size + 2 < w4.heap.size := by have := k4.size; simp at this; omega
      obtain ⟨hc4, hf4⟩ := old_cells B4
      go_wp2_with fail
      refine bodyPost_ret (v := .tuple #[.agg #[.int .i64 u, .int .i64 v], .int .i64 e]) (by simp [results, Try.results68, go_sem, hc4]) rfl ⟨rfl, ?_⟩
      have hB4 : Below w.heap.size w w4 := by
        refine Below.trans ?_ (B4.mono (by omega))
        go_grown
      go_grown
    · have hv : twoP a1 a2 b1 b2 x y = ((0, 0), 20) := by rw [twoP, if_neg (fun h => ob h.2)]
      rw [hv]
      clear hv hcl hf
      go_enter Try.func68, Try.ntmps68
      go_wp2_with fail
      refine (ratio_Check_yes a1 a2 oa _).mono ?_
      rintro e1 w1 ⟨rfl, k1⟩
      have z1 : w.heap.size + 2 < w1.heap.size := by have := k1.size; simp at this; omega
      have B1 : Below (w.heap.size + 3) (((w.alloc (.cells #[.int .i64 a1, .int .i64 a2] 24)).alloc (.cells #[.int .i64 b1, .int .i64 b2] 24)).alloc (.cells #[.int .i64 0, .int .i64 0] 24)) w1 := k1.mono (by simp)
      obtain ⟨hc1, hf1⟩ := old_cells B1
      go_wp2_with fail
      refine (ratio_Check_no b1 b2 hb1 hb2 ob _).mono ?_
      rintro e2 w2 ⟨rfl, k2⟩
      have B2 := B1.trans (k2.mono (by omega))
      have z2 : w.heap.size + 2 < w2.heap.size := by have := k2.size; omega
      have hB : Below w.heap.size w w2 := by
        refine Below.trans ?_ (B2.mono (by omega))
        go_grown
      clear k1 k2 hc1 hf1 B1 z1
      obtain ⟨hc2, hf2⟩ := old_cells B2
      go_wp2_with fail
      refine bodyPost_ret (v := .tuple #[.agg #[.int .i64 0, .int .i64 0], .int .i64 20]) (by simp [results, Try.results68, go_sem, hc2]) rfl ⟨rfl, ?_⟩
      go_grown
  · have hv : twoP a1 a2 b1 b2 x y = ((0, 0), 20) := by rw [twoP, if_neg (fun h => oa h.1)]
    rw [hv]
    clear hv hcl hf
    go_enter Try.func68, Try.ntmps68
    go_wp2_with fail
    refine (ratio_Check_no a1 a2 ha1 ha2 oa _).mono ?_
    rintro e1 w1 ⟨rfl, k1⟩
    have z1 : w.heap.size + 2 < w1.heap.size := by have := k1.size; simp at this; omega
    have B1 : Below (w.heap.size + 3) (((w.alloc (.cells #[.int .i64 a1, .int .i64 a2] 24)).alloc (.cells #[.int .i64 b1, .int .i64 b2] 24)).alloc (.cells #[.int .i64 0, .int .i64 0] 24)) w1 := k1.mono (by simp)
    obtain ⟨hc1, hf1⟩ := old_cells B1
    have hB : Below w.heap.size w w1 := by
      refine Below.trans ?_ (B1.mono (by omega))
      go_grown
    go_wp2_with fail
    refine bodyPost_ret (v := .tuple #[.agg #[.int .i64 0, .int .i64 0], .int .i64 20]) (by simp [results, Try.results68, go_sem, hc1]) rfl ⟨rfl, ?_⟩
    go_grown

theorem closure_Minus (a1 a2 b1 b2 : Int) (p q : Nat) (oa : Ok a1 a2) (ob : Ok b1 b2) (W : World)
    (c1 : W.cell? ⟨p, 0, none⟩ = some (.int .i64 a1)) (c2 : W.cell? ⟨p, 1, none⟩ = some (.int .i64 a2)) (c3 : W.cell? ⟨q, 0, none⟩ = some (.int .i64 b1)) (c4 : W.cell? ⟨q, 1, none⟩ = some (.int .i64 b2)) :
    Calls Try.prog 69 #[.pointer (some ⟨p, 0, none⟩), .pointer (some ⟨q, 0, none⟩)] W fun e W' => e = .returned (.tuple #[.int .i64 (a1 * b2 - b1 * a2), .int .i64 (a2 * b2)]) ∧ ∃ k, W' = W.drewN k := by
  have p0 := prod31 oa.num ob.den
  have p1 := prod31 ob.num oa.den
  have p2 := prod31 oa.den ob.den
  have e0 : IntKind.i64.wrap (a1 * b2) = a1 * b2 := IntWalk.i64_in _ (by omega)
  have e1 : IntKind.i64.wrap (b1 * a2) = b1 * a2 := IntWalk.i64_in _ (by omega)
  have e2 : IntKind.i64.wrap (a2 * b2) = a2 * b2 := IntWalk.i64_in _ (by omega)
  have e3 : IntKind.i64.wrap (a1 * b2 - b1 * a2) = a1 * b2 - b1 * a2 := IntWalk.i64_in _ (by omega)
  clear p0 p1 p2
  go_enter Try.func69, Try.ntmps69
  go_wp2
  go_quiet (fail)
  go_wp2
  go_ret2
  exact ⟨rfl, _, rfl⟩

/-- ratio.Minus. -/
theorem ratio_Minus (a1 a2 b1 b2 : Int) (ha1 : In a1) (ha2 : In a2) (hb1 : In b1) (hb2 : In b2) (w : World) :
    Calls Try.prog 31 #[.agg #[.int .i64 a1, .int .i64 a2], .agg #[.int .i64 b1, .int .i64 b2]] w fun e w' =>
      e = .returned (.tuple #[.agg #[.int .i64 (minusP a1 a2 b1 b2).1.1, .int .i64 (minusP a1 a2 b1 b2).1.2], .int .i64 (minusP a1 a2 b1 b2).2]) ∧ Below w.heap.size w w' := by
  obtain ⟨u, v, e, hm⟩ : ∃ u v e, minusP a1 a2 b1 b2 = ((u, v), e) := ⟨_, _, _, rfl⟩
  rw [hm]
  have two := ratio_two a1 a2 b1 b2 (a1 * b2 - b1 * a2) (a2 * b2) 69 ⟨w.heap.size, 0, none⟩ ⟨w.heap.size + 1, 0, none⟩ (((w.alloc (.cells #[.int .i64 a1, .int .i64 a2] 24)).alloc (.cells #[.int .i64 b1, .int .i64 b2] 24)).alloc (.cells #[.int .i64 0, .int .i64 0] 24)) ha1 ha2 hb1 hb2 (fun _ _ => by kernel_rfl) (by
    intro oa ob
    have p0 := prod31 oa.num ob.den
    have p1 := prod31 ob.num oa.den
    have p2 := prod31 oa.den ob.den
    refine ⟨by unfold In; omega, by unfold In; omega, fun W hW => closure_Minus a1 a2 b1 b2 _ _ oa ob W ?_ ?_ ?_ ?_⟩
    · exact keepC hW (by simp [go_sem]) (by simp <;> omega)
    · exact keepC hW (by simp [go_sem]) (by simp <;> omega)
    · exact keepC hW (by simp [go_sem]) (by simp <;> omega)
    · exact keepC hW (by simp [go_sem]) (by simp <;> omega))
  have hm' : twoP a1 a2 b1 b2 (a1 * b2 - b1 * a2) (a2 * b2) = ((u, v), e) := hm
  rw [hm'] at two
  have TWO := Lib.hid two
  clear two hm hm'
  go_enter Try.func31, Try.ntmps31
  go_wp2_with fail
  refine TWO.out.mono ?_
  rintro e1 w1 ⟨rfl, k1⟩
  have z1 : w.heap.size + 2 < w1.heap.size := by have := k1.size; simp at this; omega
  have B1 : Below (w.heap.size + 3) (((w.alloc (.cells #[.int .i64 a1, .int .i64 a2] 24)).alloc (.cells #[.int .i64 b1, .int .i64 b2] 24)).alloc (.cells #[.int .i64 0, .int .i64 0] 24)) w1 := k1.mono (by simp)
  obtain ⟨hc1, hf1⟩ := old_cells B1
  have hB : Below w.heap.size w w1 := by
    refine Below.trans ?_ (B1.mono (by omega))
    go_grown
  go_wp2_with fail
  refine bodyPost_ret (v := .tuple #[.agg #[.int .i64 u, .int .i64 v], .int .i64 e]) (by simp [results, Try.results31, go_sem, hc1]) rfl ⟨rfl, ?_⟩
  go_grown
theorem ratio_Minus_is (a1 a2 b1 b2 x y e : Int) (w : World) (ha1 : In a1) (ha2 : In a2) (hb1 : In b1) (hb2 : In b2) (h : minusP a1 a2 b1 b2 = ((x, y), e)) :
    Calls Try.prog 31 #[.agg #[.int .i64 a1, .int .i64 a2], .agg #[.int .i64 b1, .int .i64 b2]] w fun r w' =>
      r = .returned (.tuple #[.agg #[.int .i64 x, .int .i64 y], .int .i64 e]) ∧ Below w.heap.size w w' := by
  have := ratio_Minus a1 a2 b1 b2 ha1 ha2 hb1 hb2 w
  rwa [h] at this

theorem closure_Mul (a1 a2 b1 b2 : Int) (p q : Nat) (oa : Ok a1 a2) (ob : Ok b1 b2) (W : World)
    (c1 : W.cell? ⟨p, 0, none⟩ = some (.int .i64 a1)) (c2 : W.cell? ⟨p, 1, none⟩ = some (.int .i64 a2)) (c3 : W.cell? ⟨q, 0, none⟩ = some (.int .i64 b1)) (c4 : W.cell? ⟨q, 1, none⟩ = some (.int .i64 b2)) :
    Calls Try.prog 95 #[.pointer (some ⟨p, 0, none⟩), .pointer (some ⟨q, 0, none⟩)] W fun e W' => e = .returned (.tuple #[.int .i64 (a1 * b1), .int .i64 (a2 * b2)]) ∧ ∃ k, W' = W.drewN k := by
  have p0 := prod31 oa.num ob.num
  have p1 := prod31 oa.den ob.den
  have e0 : IntKind.i64.wrap (a1 * b1) = a1 * b1 := IntWalk.i64_in _ (by omega)
  have e1 : IntKind.i64.wrap (a2 * b2) = a2 * b2 := IntWalk.i64_in _ (by omega)
  clear p0 p1
  go_enter Try.func95, Try.ntmps95
  go_wp2
  go_quiet (fail)
  go_wp2
  go_ret2
  exact ⟨rfl, _, rfl⟩

/-- ratio.Mul. -/
theorem ratio_Mul (a1 a2 b1 b2 : Int) (ha1 : In a1) (ha2 : In a2) (hb1 : In b1) (hb2 : In b2) (w : World) :
    Calls Try.prog 57 #[.agg #[.int .i64 a1, .int .i64 a2], .agg #[.int .i64 b1, .int .i64 b2]] w fun e w' =>
      e = .returned (.tuple #[.agg #[.int .i64 (mulRP a1 a2 b1 b2).1.1, .int .i64 (mulRP a1 a2 b1 b2).1.2], .int .i64 (mulRP a1 a2 b1 b2).2]) ∧ Below w.heap.size w w' := by
  obtain ⟨u, v, e, hm⟩ : ∃ u v e, mulRP a1 a2 b1 b2 = ((u, v), e) := ⟨_, _, _, rfl⟩
  rw [hm]
  have two := ratio_two a1 a2 b1 b2 (a1 * b1) (a2 * b2) 95 ⟨w.heap.size, 0, none⟩ ⟨w.heap.size + 1, 0, none⟩ (((w.alloc (.cells #[.int .i64 a1, .int .i64 a2] 24)).alloc (.cells #[.int .i64 b1, .int .i64 b2] 24)).alloc (.cells #[.int .i64 0, .int .i64 0] 24)) ha1 ha2 hb1 hb2 (fun _ _ => by kernel_rfl) (by
    intro oa ob
    have p0 := prod31 oa.num ob.num
    have p1 := prod31 oa.den ob.den
    refine ⟨by unfold In; omega, by unfold In; omega, fun W hW => closure_Mul a1 a2 b1 b2 _ _ oa ob W ?_ ?_ ?_ ?_⟩
    · exact keepC hW (by simp [go_sem]) (by simp <;> omega)
    · exact keepC hW (by simp [go_sem]) (by simp <;> omega)
    · exact keepC hW (by simp [go_sem]) (by simp <;> omega)
    · exact keepC hW (by simp [go_sem]) (by simp <;> omega))
  have hm' : twoP a1 a2 b1 b2 (a1 * b1) (a2 * b2) = ((u, v), e) := hm
  rw [hm'] at two
  have TWO := Lib.hid two
  clear two hm hm'
  go_enter Try.func57, Try.ntmps57
  go_wp2_with fail
  refine TWO.out.mono ?_
  rintro e1 w1 ⟨rfl, k1⟩
  have z1 : w.heap.size + 2 < w1.heap.size := by have := k1.size; simp at this; omega
  have B1 : Below (w.heap.size + 3) (((w.alloc (.cells #[.int .i64 a1, .int .i64 a2] 24)).alloc (.cells #[.int .i64 b1, .int .i64 b2] 24)).alloc (.cells #[.int .i64 0, .int .i64 0] 24)) w1 := k1.mono (by simp)
  obtain ⟨hc1, hf1⟩ := old_cells B1
  have hB : Below w.heap.size w w1 := by
    refine Below.trans ?_ (B1.mono (by omega))
    go_grown
  go_wp2_with fail
  refine bodyPost_ret (v := .tuple #[.agg #[.int .i64 u, .int .i64 v], .int .i64 e]) (by simp [results, Try.results57, go_sem, hc1]) rfl ⟨rfl, ?_⟩
  go_grown
theorem ratio_Mul_is (a1 a2 b1 b2 x y e : Int) (w : World) (ha1 : In a1) (ha2 : In a2) (hb1 : In b1) (hb2 : In b2) (h : mulRP a1 a2 b1 b2 = ((x, y), e)) :
    Calls Try.prog 57 #[.agg #[.int .i64 a1, .int .i64 a2], .agg #[.int .i64 b1, .int .i64 b2]] w fun r w' =>
      r = .returned (.tuple #[.agg #[.int .i64 x, .int .i64 y], .int .i64 e]) ∧ Below w.heap.size w w' := by
  have := ratio_Mul a1 a2 b1 b2 ha1 ha2 hb1 hb2 w
  rwa [h] at this

theorem closure_add (a1 a2 b1 b2 : Int) (p q : Nat) (oa : Ok a1 a2) (ob : Ok b1 b2) (W : World)
    (c1 : W.cell? ⟨p, 0, none⟩ = some (.int .i64 a1)) (c2 : W.cell? ⟨p, 1, none⟩ = some (.int .i64 a2)) (c3 : W.cell? ⟨q, 0, none⟩ = some (.int .i64 b1)) (c4 : W.cell? ⟨q, 1, none⟩ = some (.int .i64 b2)) :
    Calls Try.prog 113 #[.pointer (some ⟨p, 0, none⟩), .pointer (some ⟨q, 0, none⟩)] W fun e W' => e = .returned (.tuple #[.int .i64 (a1 * b2 + b1 * a2), .int .i64 (a2 * b2)]) ∧ ∃ k, W' = W.drewN k := by
  have p0 := prod31 oa.num ob.den
  have p1 := prod31 ob.num oa.den
  have p2 := prod31 oa.den ob.den
  have e0 : IntKind.i64.wrap (a1 * b2) = a1 * b2 := IntWalk.i64_in _ (by omega)
  have e1 : IntKind.i64.wrap (b1 * a2) = b1 * a2 := IntWalk.i64_in _ (by omega)
  have e2 : IntKind.i64.wrap (a2 * b2) = a2 * b2 := IntWalk.i64_in _ (by omega)
  have e3 : IntKind.i64.wrap (a1 * b2 + b1 * a2) = a1 * b2 + b1 * a2 := IntWalk.i64_in _ (by omega)
  clear p0 p1 p2
  go_enter Try.func113, Try.ntmps113
  go_wp2
  go_quiet (fail)
  go_wp2
  go_ret2
  exact ⟨rfl, _, rfl⟩

/-- ratio.add. -/
theorem ratio_add (a1 a2 b1 b2 : Int) (ha1 : In a1) (ha2 : In a2) (hb1 : In b1) (hb2 : In b2) (w : World) :
    Calls Try.prog 94 #[.agg #[.int .i64 a1, .int .i64 a2], .agg #[.int .i64 b1, .int .i64 b2]] w fun e w' =>
      e = .returned (.tuple #[.agg #[.int .i64 (addRP a1 a2 b1 b2).1.1, .int .i64 (addRP a1 a2 b1 b2).1.2], .int .i64 (addRP a1 a2 b1 b2).2]) ∧ Below w.heap.size w w' := by
  obtain ⟨u, v, e, hm⟩ : ∃ u v e, addRP a1 a2 b1 b2 = ((u, v), e) := ⟨_, _, _, rfl⟩
  rw [hm]
  have two := ratio_two a1 a2 b1 b2 (a1 * b2 + b1 * a2) (a2 * b2) 113 ⟨w.heap.size, 0, none⟩ ⟨w.heap.size + 1, 0, none⟩ (((w.alloc (.cells #[.int .i64 a1, .int .i64 a2] 24)).alloc (.cells #[.int .i64 b1, .int .i64 b2] 24)).alloc (.cells #[.int .i64 0, .int .i64 0] 24)) ha1 ha2 hb1 hb2 (fun _ _ => by kernel_rfl) (by
    intro oa ob
    have p0 := prod31 oa.num ob.den
    have p1 := prod31 ob.num oa.den
    have p2 := prod31 oa.den ob.den
    refine ⟨by unfold In; omega, by unfold In; omega, fun W hW => closure_add a1 a2 b1 b2 _ _ oa ob W ?_ ?_ ?_ ?_⟩
    · exact keepC hW (by simp [go_sem]) (by simp <;> omega)
    · exact keepC hW (by simp [go_sem]) (by simp <;> omega)
    · exact keepC hW (by simp [go_sem]) (by simp <;> omega)
    · exact keepC hW (by simp [go_sem]) (by simp <;> omega))
  have hm' : twoP a1 a2 b1 b2 (a1 * b2 + b1 * a2) (a2 * b2) = ((u, v), e) := hm
  rw [hm'] at two
  have TWO := Lib.hid two
  clear two hm hm'
  go_enter Try.func94, Try.ntmps94
  go_wp2_with fail
  refine TWO.out.mono ?_
  rintro e1 w1 ⟨rfl, k1⟩
  have z1 : w.heap.size + 2 < w1.heap.size := by have := k1.size; simp at this; omega
  have B1 : Below (w.heap.size + 3) (((w.alloc (.cells #[.int .i64 a1, .int .i64 a2] 24)).alloc (.cells #[.int .i64 b1, .int .i64 b2] 24)).alloc (.cells #[.int .i64 0, .int .i64 0] 24)) w1 := k1.mono (by simp)
  obtain ⟨hc1, hf1⟩ := old_cells B1
  have hB : Below w.heap.size w w1 := by
    refine Below.trans ?_ (B1.mono (by omega))
    go_grown
  go_wp2_with fail
  refine bodyPost_ret (v := .tuple #[.agg #[.int .i64 u, .int .i64 v], .int .i64 e]) (by simp [results, Try.results94, go_sem, hc1]) rfl ⟨rfl, ?_⟩
  go_grown
theorem ratio_add_is (a1 a2 b1 b2 x y e : Int) (w : World) (ha1 : In a1) (ha2 : In a2) (hb1 : In b1) (hb2 : In b2) (h : addRP a1 a2 b1 b2 = ((x, y), e)) :
    Calls Try.prog 94 #[.agg #[.int .i64 a1, .int .i64 a2], .agg #[.int .i64 b1, .int .i64 b2]] w fun r w' =>
      r = .returned (.tuple #[.agg #[.int .i64 x, .int .i64 y], .int .i64 e]) ∧ Below w.heap.size w w' := by
  have := ratio_add a1 a2 b1 b2 ha1 ha2 hb1 hb2 w
  rwa [h] at this
end Go.Proofs.Ytnjckaifgmliaaa
