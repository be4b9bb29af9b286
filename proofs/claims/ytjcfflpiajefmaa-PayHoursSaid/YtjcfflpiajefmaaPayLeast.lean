/- THE WALK of PayLeast: it returns true, and turns nothing that was there. -/
import Derived.Test.YtjcfflpiajefmaaPayMain
set_option linter.unusedSimpArgs false
set_option linter.unusedVariables false
namespace Go.Proofs.Ytjcfflpiajefmaa
open Go.RowKit Lu

theorem addTo_range {C : Nat → Int} {a A M : Int} (ha : 0 ≤ a ∧ a ≤ A) (h : ∀ j : Nat, j < 7 → 0 ≤ C j ∧ C j ≤ M) (k : Nat) (hk : k ≤ 7) : 0 ≤ addTo C a k ∧ addTo C a k ≤ A + M * k := by
  induction k with
  | zero => simp [addTo]; omega
  | succ k ih =>
    have := ih (by omega)
    have e : M * ((k + 1 : Nat) : Int) = M * k + M := by rw [Int.natCast_add, Int.mul_add]; simp
    rw [e]
    unfold addTo
    have := h k (by omega)
    omega
theorem seven_all {x0 x1 x2 x3 x4 x5 x6 : Int} {P : Int → Prop} (h0 : P x0) (h1 : P x1) (h2 : P x2) (h3 : P x3) (h4 : P x4) (h5 : P x5) (h6 : P x6) (j : Nat) (hj : j < 7) : P ([x0, x1, x2, x3, x4, x5, x6].getD j 0) := by
  rcases (show j = 0 ∨ j = 1 ∨ j = 2 ∨ j = 3 ∨ j = 4 ∨ j = 5 ∨ j = 6 by omega) with rfl | rfl | rfl | rfl | rfl | rfl | rfl
  · exact h0
  · exact h1
  · exact h2
  · exact h3
  · exact h4
  · exact h5
  · exact h6


set_option maxRecDepth 100000 in
set_option maxHeartbeats 4000000 in
theorem payLeast_walk (s : Setup) (q : Slices) (worker x0 x1 x2 x3 x4 x5 x6 el tier : Int) (w : World) (h : SetupIs w s q) (_hw : In worker) (_hx0 : In x0) (_hx1 : In x1) (_hx2 : In x2) (_hx3 : In x3) (_hx4 : In x4) (_hx5 : In x5) (_hx6 : In x6) (_he : In el) (_ht : In tier) :
    Calls Try.prog 4 #[.agg #[.int .i64 s.places, .slice q.wa q.wl q.wc, .int .i64 s.pn, .int .i64 s.pd, .slice q.ea q.el q.ec, .slice q.ca q.cl q.cc, .slice q.ga q.gl q.gc, .int .i64 s.allow, .int .i64 s.unit, .int .i64 s.cap, .int .i64 s.paidBreak, .int .i64 s.autoAfter, .int .i64 s.autoBreak, .int .i64 s.dayReg, .int .i64 s.dayOver, .int .i64 s.weekReg, .int .i64 s.nightFrom, .int .i64 s.nightTo, .slice q.ra q.rl q.rc, .int .i64 s.diff, .int .i64 s.least, .int .i64 s.fault, .slice q.ta q.tl q.tc], .int .i64 worker, .agg #[.int .i64 x0, .int .i64 x1, .int .i64 x2, .int .i64 x3, .int .i64 x4, .int .i64 x5, .int .i64 x6], .int .i64 el, .int .i64 tier] w fun e w' => e = .returned (.bool true) ∧ Below w.heap.size w w' := by
  clear _hx0 _hx1 _hx2 _hx3 _hx4 _hx5 _hx6
  obtain ⟨f, hf⟩ : ∃ f, fairP s worker [x0, x1, x2, x3, x4, x5, x6] = f := ⟨_, rfl⟩
  have HF := Lib.hid hf
  clear hf
  have hb : ((w.alloc (.cells #[.int .i64 s.places, .slice q.wa q.wl q.wc, .int .i64 s.pn, .int .i64 s.pd, .slice q.ea q.el q.ec, .slice q.ca q.cl q.cc, .slice q.ga q.gl q.gc, .int .i64 s.allow, .int .i64 s.unit, .int .i64 s.cap, .int .i64 s.paidBreak, .int .i64 s.autoAfter, .int .i64 s.autoBreak, .int .i64 s.dayReg, .int .i64 s.dayOver, .int .i64 s.weekReg, .int .i64 s.nightFrom, .int .i64 s.nightTo, .slice q.ra q.rl q.rc, .int .i64 s.diff, .int .i64 s.least, .int .i64 s.fault, .slice q.ta q.tl q.tc] 30)).alloc (.cells #[.int .i64 x0, .int .i64 x1, .int .i64 x2, .int .i64 x3, .int .i64 x4, .int .i64 x5, .int .i64 x6] 31)).heap[w.heap.size]? = some (.cells #[.int .i64 s.places, .slice q.wa q.wl q.wc, .int .i64 s.pn, .int .i64 s.pd, .slice q.ea q.el q.ec, .slice q.ca q.cl q.cc, .slice q.ga q.gl q.gc, .int .i64 s.allow, .int .i64 s.unit, .int .i64 s.cap, .int .i64 s.paidBreak, .int .i64 s.autoAfter, .int .i64 s.autoBreak, .int .i64 s.dayReg, .int .i64 s.dayOver, .int .i64 s.weekReg, .int .i64 s.nightFrom, .int .i64 s.nightTo, .slice q.ra q.rl q.rc, .int .i64 s.diff, .int .i64 s.least, .int .i64 s.fault, .slice q.ta q.tl q.tc] 30) := box_keep (B := w.heap.size + 1) (by go_grown) (box_new w _ rfl _ _) (by omega)
  have hs : ((w.alloc (.cells #[.int .i64 s.places, .slice q.wa q.wl q.wc, .int .i64 s.pn, .int .i64 s.pd, .slice q.ea q.el q.ec, .slice q.ca q.cl q.cc, .slice q.ga q.gl q.gc, .int .i64 s.allow, .int .i64 s.unit, .int .i64 s.cap, .int .i64 s.paidBreak, .int .i64 s.autoAfter, .int .i64 s.autoBreak, .int .i64 s.dayReg, .int .i64 s.dayOver, .int .i64 s.weekReg, .int .i64 s.nightFrom, .int .i64 s.nightTo, .slice q.ra q.rl q.rc, .int .i64 s.diff, .int .i64 s.least, .int .i64 s.fault, .slice q.ta q.tl q.tc] 30)).alloc (.cells #[.int .i64 x0, .int .i64 x1, .int .i64 x2, .int .i64 x3, .int .i64 x4, .int .i64 x5, .int .i64 x6] 31)).heap[w.heap.size + 1]? = some (.cells #[.int .i64 x0, .int .i64 x1, .int .i64 x2, .int .i64 x3, .int .i64 x4, .int .i64 x5, .int .i64 x6] 31) := box_new _ _ (by simp) _ _
  have B0 : Below w.heap.size w ((w.alloc (.cells #[.int .i64 s.places, .slice q.wa q.wl q.wc, .int .i64 s.pn, .int .i64 s.pd, .slice q.ea q.el q.ec, .slice q.ca q.cl q.cc, .slice q.ga q.gl q.gc, .int .i64 s.allow, .int .i64 s.unit, .int .i64 s.cap, .int .i64 s.paidBreak, .int .i64 s.autoAfter, .int .i64 s.autoBreak, .int .i64 s.dayReg, .int .i64 s.dayOver, .int .i64 s.weekReg, .int .i64 s.nightFrom, .int .i64 s.nightTo, .slice q.ra q.rl q.rc, .int .i64 s.diff, .int .i64 s.least, .int .i64 s.fault, .slice q.ta q.tl q.tc] 30)).alloc (.cells #[.int .i64 x0, .int .i64 x1, .int .i64 x2, .int .i64 x3, .int .i64 x4, .int .i64 x5, .int .i64 x6] 31)) := by go_grown
  have z0 : w.heap.size + 1 < ((w.alloc (.cells #[.int .i64 s.places, .slice q.wa q.wl q.wc, .int .i64 s.pn, .int .i64 s.pd, .slice q.ea q.el q.ec, .slice q.ca q.cl q.cc, .slice q.ga q.gl q.gc, .int .i64 s.allow, .int .i64 s.unit, .int .i64 s.cap, .int .i64 s.paidBreak, .int .i64 s.autoAfter, .int .i64 s.autoBreak, .int .i64 s.dayReg, .int .i64 s.dayOver, .int .i64 s.weekReg, .int .i64 s.nightFrom, .int .i64 s.nightTo, .slice q.ra q.rl q.rc, .int .i64 s.diff, .int .i64 s.least, .int .i64 s.fault, .slice q.ta q.tl q.tc] 30)).alloc (.cells #[.int .i64 x0, .int .i64 x1, .int .i64 x2, .int .i64 x3, .int .i64 x4, .int .i64 x5, .int .i64 x6] 31)).heap.size := by simp
  go_enter Try.func4, Try.ntmps4
  go_wp2_with fail
  refine (awake19 _).mono ?_
  rintro e1 w1 ⟨rfl, k1⟩
  replace hb := box_keep k1 hb (by omega)
  replace hs := box_keep k1 hs (by omega)
  replace B0 := B0.trans (k1.mono (by omega))
  replace z0 := Nat.lt_of_lt_of_le z0 k1.size
  clear k1
  go_wp2_with (first | (refine wpList_load_box 30 (.tmp 5) rfl rfl (w.heap.size) rfl 30 #[.int .i64 s.places, .slice q.wa q.wl q.wc, .int .i64 s.pn, .int .i64 s.pd, .slice q.ea q.el q.ec, .slice q.ca q.cl q.cc, .slice q.ga q.gl q.gc, .int .i64 s.allow, .int .i64 s.unit, .int .i64 s.cap, .int .i64 s.paidBreak, .int .i64 s.autoAfter, .int .i64 s.autoBreak, .int .i64 s.dayReg, .int .i64 s.dayOver, .int .i64 s.weekReg, .int .i64 s.nightFrom, .int .i64 s.nightTo, .slice q.ra q.rl q.rc, .int .i64 s.diff, .int .i64 s.least, .int .i64 s.fault, .slice q.ta q.tl q.tc] hb setup_big ?_) | (refine wpList_load_box 31 (.tmp 7) rfl rfl (w.heap.size + 1) rfl 31 #[.int .i64 x0, .int .i64 x1, .int .i64 x2, .int .i64 x3, .int .i64 x4, .int .i64 x5, .int .i64 x6] hs seven_big ?_))
  refine (law_fair s q worker x0 x1 x2 x3 x4 x5 x6 f _ (h.below B0) HF.out).mono ?_
  rintro e2 w2 ⟨rfl, k2⟩
  replace hb := box_keep k2 hb (by omega)
  replace hs := box_keep k2 hs (by omega)
  replace B0 := B0.trans (k2.mono (by omega))
  replace z0 := Nat.lt_of_lt_of_le z0 k2.size
  clear k2
  cases f
  · go_wp2_with fail
    go_ret
    exact ⟨rfl, B0⟩
  · obtain ⟨c0, c1, c2, c3, c4, c5, c6, b, m, g, er, hp⟩ := payP_shape s worker el tier [x0, x1, x2, x3, x4, x5, x6]
    have hfr := fair_of HF.out
    obtain ⟨rate, M⟩ := payMain hfr hp
    have HP := Lib.hid hp
    clear hp
    obtain rfl := M.ez
    obtain rfl := M.cz
    go_wp2_with (first | (refine wpList_load_box 30 (.tmp 5) rfl rfl (w.heap.size) rfl 30 #[.int .i64 s.places, .slice q.wa q.wl q.wc, .int .i64 s.pn, .int .i64 s.pd, .slice q.ea q.el q.ec, .slice q.ca q.cl q.cc, .slice q.ga q.gl q.gc, .int .i64 s.allow, .int .i64 s.unit, .int .i64 s.cap, .int .i64 s.paidBreak, .int .i64 s.autoAfter, .int .i64 s.autoBreak, .int .i64 s.dayReg, .int .i64 s.dayOver, .int .i64 s.weekReg, .int .i64 s.nightFrom, .int .i64 s.nightTo, .slice q.ra q.rl q.rc, .int .i64 s.diff, .int .i64 s.least, .int .i64 s.fault, .slice q.ta q.tl q.tc] hb setup_big ?_) | (refine wpList_load_box 31 (.tmp 7) rfl rfl (w.heap.size + 1) rfl 31 #[.int .i64 x0, .int .i64 x1, .int .i64 x2, .int .i64 x3, .int .i64 x4, .int .i64 x5, .int .i64 x6] hs seven_big ?_))
    refine (pay_Of_is s q worker x0 x1 x2 x3 x4 x5 x6 el tier 0 c1 c2 c3 c4 c5 c6 b m g 0 _ (h.below B0) HP.out).mono ?_
    rintro e3 w3 ⟨rfl, k3⟩
    replace hb := box_keep k3 hb (by omega)
    replace hs := box_keep k3 hs (by omega)
    replace B0 := B0.trans (k3.mono (by omega))
    replace z0 := Nat.lt_of_lt_of_le z0 k3.size
    clear k3
    have ha : (w3.alloc (.cells #[.int .i64 0, .int .i64 c1, .int .i64 c2, .int .i64 c3, .int .i64 c4, .int .i64 c5, .int .i64 c6] 31)).heap[w3.heap.size]? = some (.cells #[.int .i64 0, .int .i64 c1, .int .i64 c2, .int .i64 c3, .int .i64 c4, .int .i64 c5, .int .i64 c6] 31) := box_new _ _ rfl _ _
    have hk : Below w3.heap.size w3 (w3.alloc (.cells #[.int .i64 0, .int .i64 c1, .int .i64 c2, .int .i64 c3, .int .i64 c4, .int .i64 c5, .int .i64 c6] 31)) := by go_grown
    have za3 : w.heap.size + 1 < w3.heap.size := z0
    replace hb := box_keep hk hb (by omega)
    replace hs := box_keep hk hs (by omega)
    replace B0 := B0.trans (hk.mono (by omega))
    replace z0 := Nat.lt_of_lt_of_le z0 hk.size
    clear hk
    have cl : (w3.alloc (.cells #[.int .i64 0, .int .i64 c1, .int .i64 c2, .int .i64 c3, .int .i64 c4, .int .i64 c5, .int .i64 c6] 31)).cell? ⟨w.heap.size, 20, none⟩ = some (.int .i64 s.least) := by rw [cell_of_block hb]; rfl
    have hsv := fun j hj => seven_cell hs j hj
    have hcv := fun j hj => seven_cell ha j hj
    have x0r := hfr.secs x0 (by simp)
    have x1r := hfr.secs x1 (by simp)
    have x2r := hfr.secs x2 (by simp)
    have x3r := hfr.secs x3 (by simp)
    have x4r := hfr.secs x4 (by simp)
    have x5r := hfr.secs x5 (by simp)
    have x6r := hfr.secs x6 (by simp)
    have hY := seven_all (P := fun z => 0 ≤ z ∧ z ≤ 604800) x0r x1r x2r x3r x4r x5r x6r
    have hC := seven_all (P := fun z => 0 ≤ z ∧ z ≤ 362880000001) (x0 := 0) (by decide) M.cent1 M.cent2 M.cent3 M.cent4 M.cent5 M.cent6
    have hb0 := M.bonus
    obtain ⟨hm0, hm1, hl1, hl2, hl3⟩ := M.least x1r x2r x3r x4r x5r x6r
    have hg := M.gn
    have hlr := M.ok.least
    have e7 : gotTo (fun j => [x0, x1, x2, x3, x4, x5, x6].getD j 0) 0 7 = x1 + x2 + x3 + x4 + x5 + x6 := by simp [gotTo]
    have s7 : addTo (fun j => [0, c1, c2, c3, c4, c5, c6].getD j 0) (b + m) 7 = g := by simp [addTo]; omega
    have hbm : 0 ≤ b + m ∧ b + m ≤ 200000000000 := by omega
    have hgr : 0 ≤ g ∧ g ≤ 10000000000000 := by have := M.cent1; have := M.cent2; have := M.cent3; have := M.cent4; have := M.cent5; have := M.cent6; omega
    have hpr := mul_range (a := x1 + x2 + x3 + x4 + x5 + x6) (A := 3628800) (by omega) hlr
    rw [← e7] at hl1 hl2 hpr
    have HS7 := Lib.hid s7
    have HSV := Lib.hid hsv
    have HCV := Lib.hid hcv
    have HY := Lib.hid hY
    have HC := Lib.hid hC
    clear s7 e7 hsv hcv hY hC hg M hfr HP hs ha hb x0r x1r x2r x3r x4r x5r x6r
    generalize hYY : (fun j : Nat => [x0, x1, x2, x3, x4, x5, x6].getD j 0) = Y at *
    generalize hCC : (fun j : Nat => [0, c1, c2, c3, c4, c5, c6].getD j 0) = C at *
    have HYY := Lib.hid hYY
    have HCC := Lib.hid hCC
    clear hYY hCC
    go_wp2_with fail
    generalize w3.alloc (.cells #[.int .i64 0, .int .i64 c1, .int .i64 c2, .int .i64 c3, .int .i64 c4, .int .i64 c5, .int .i64 c6] 31) = W at *
    go_loop [17, 18, 19] (fun sm pd i => ∃ k : Nat, k ≤ 7 ∧ i = .int .i64 k ∧ sm = .int .i64 (addTo C (b + m) k) ∧ pd = .int .i64 (gotTo Y 0 k)) (fun _ _ i => 7 - (intOf i).toNat)
    case atStart => exact ⟨0, by omega, rfl, rfl, rfl⟩
    case round =>
      obtain ⟨k, hk, rfl, rfl, rfl⟩ := hrel
      by_cases hlt : k < 7
      · have r1 := addTo_range hbm (C := C) (M := 362880000001) (fun j hj => by rw [← HCC.out]; exact HC.out j hj) k hk
        have r2 := gotTo_range (C := Y) (b := 0) (M := 604800) (by decide) (fun j _ hj => by rw [← HYY.out]; exact HY.out j hj) k hk
        have d0 : W.cell? ⟨w3.heap.size, k, none⟩ = some (.int .i64 (C k)) := by rw [← HCC.out]; exact HCV.out k hlt
        have d1 : W.cell? ⟨w.heap.size + 1, k, none⟩ = some (.int .i64 (Y k)) := by rw [← HYY.out]; exact HSV.out k hlt
        have r3 : 0 ≤ C k ∧ C k ≤ 362880000001 := by rw [← HCC.out]; exact HC.out k hlt
        have r4 : 0 ≤ Y k ∧ Y k ≤ 604800 := by rw [← HYY.out]; exact HY.out k hlt
        have hki : (k : Int) < 7 := by omega
        have a1 := Lib.hid (show addTo C (b + m) (k + 1) = addTo C (b + m) k + C k from rfl)
        clear hl1 hl2 hpr cl
        by_cases k0 : k = 0
        · have a2 := Lib.hid (show gotTo Y 0 (k + 1) = gotTo Y 0 k by show gotTo Y 0 k + (if k = 0 then 0 else Y k) = _; rw [if_pos k0, Int.add_zero])
          subst k0
          generalize addTo C (b + m) 0 = u at *
          generalize gotTo Y 0 0 = v at *
          go_wp2_with fail
          go_round
          case rel => exact ⟨0 + 1, by omega, by go_num, by rw [a1.out], by rw [a2.out]⟩
          case measure => simp [intOf]
        · have a2 := Lib.hid (show gotTo Y 0 (k + 1) = gotTo Y 0 k + Y k by show gotTo Y 0 k + (if k = 0 then 0 else Y k) = _; rw [if_neg k0])
          have q0 : 0 < k := by omega
          clear k0
          generalize addTo C (b + m) k = u at *
          generalize gotTo Y 0 k = v at *
          go_wp2_with fail
          go_round
          case rel => exact ⟨k + 1, by omega, by go_num, by rw [a1.out], by rw [a2.out]⟩
          case measure => simp [intOf]; omega
      · obtain rfl : k = 7 := by omega
        have c00 : W.cell? ⟨w3.heap.size, 0, none⟩ = some (.int .i64 0) := HCV.out 0 (by decide)
        rw [HS7.out]
        generalize gotTo Y 0 7 = p at *
        have t1 : decide (p * s.least ≤ g * 3600) = true := by simp; omega
        have t4 : decide (0 ≤ m) = true := by simp; omega
        clear hl1 HS7 HCV HSV HY HC HYY HCC
        by_cases m0 : m = 0
        · obtain rfl := m0
          clear hl2 hl3
          go_wp2_with fail
          all_goals
            go_ret
            exact ⟨rfl, B0⟩
        · have t2 : (m == 0) = false := by simp [m0]
          have t3 : decide ((g - 1) * 3600 < p * s.least) = true := by simp; omega
          have t5 : decide (0 < s.least) = true := by simp; omega
          clear hl2 hl3
          go_wp2_with fail
          go_ret
          exact ⟨rfl, B0⟩

end Go.Proofs.Ytjcfflpiajefmaa
