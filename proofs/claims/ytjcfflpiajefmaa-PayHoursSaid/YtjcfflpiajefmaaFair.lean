/- THE STATEMENTS of layer 19: 'fair', and what their walks share. -/
import Derived.Test.YtjcfflpiajefmaaPayAwake
set_option linter.unusedSimpArgs false
set_option linter.unusedVariables false
namespace Go.Proofs.Ytjcfflpiajefmaa
open Go.RowKit Lu

theorem seven_big : bigB Try.prog 31 7 = true := by kernel_rfl
theorem cell_of_block {w : World} {b : Nat} {cs : Array Value} {t : TypeId} (h : w.heap[b]? = some (.cells cs t)) (j : Nat) : w.cell? ⟨b, j, none⟩ = cs[j]? := by
  simp [World.cell?, h]
theorem seven_cell {w : World} {b : Nat} {t : TypeId} {x0 x1 x2 x3 x4 x5 x6 : Int} (h : w.heap[b]? = some (.cells #[.int .i64 x0, .int .i64 x1, .int .i64 x2, .int .i64 x3, .int .i64 x4, .int .i64 x5, .int .i64 x6] t)) (j : Nat) (hj : j < 7) :
    w.cell? ⟨b, j, none⟩ = some (.int .i64 ([x0, x1, x2, x3, x4, x5, x6].getD j 0)) := by
  rw [cell_of_block h]
  rcases (show j = 0 ∨ j = 1 ∨ j = 2 ∨ j = 3 ∨ j = 4 ∨ j = 5 ∨ j = 6 by omega) with rfl | rfl | rfl | rfl | rfl | rfl | rfl <;> rfl
def fairP (s : Setup) (worker : Int) (x : List Int) : Bool := allP 0 604800 x && fewP s && setupP s && decide (0 ≤ worker) && decide (worker < s.rates.length)

set_option maxHeartbeats 4000000 in
theorem law_fair (s : Setup) (q : Slices) (worker x0 x1 x2 x3 x4 x5 x6 : Int) (r : Bool) (w : World) (h : SetupIs w s q) (hr : fairP s worker [x0, x1, x2, x3, x4, x5, x6] = r) :
    Calls Try.prog 18 #[.agg #[.int .i64 s.places, .slice q.wa q.wl q.wc, .int .i64 s.pn, .int .i64 s.pd, .slice q.ea q.el q.ec, .slice q.ca q.cl q.cc, .slice q.ga q.gl q.gc, .int .i64 s.allow, .int .i64 s.unit, .int .i64 s.cap, .int .i64 s.paidBreak, .int .i64 s.autoAfter, .int .i64 s.autoBreak, .int .i64 s.dayReg, .int .i64 s.dayOver, .int .i64 s.weekReg, .int .i64 s.nightFrom, .int .i64 s.nightTo, .slice q.ra q.rl q.rc, .int .i64 s.diff, .int .i64 s.least, .int .i64 s.fault, .slice q.ta q.tl q.tc], .int .i64 worker, .agg #[.int .i64 x0, .int .i64 x1, .int .i64 x2, .int .i64 x3, .int .i64 x4, .int .i64 x5, .int .i64 x6]] w fun e w' => e = .returned (.bool r) ∧ Below w.heap.size w w' := by
  have HRR := Lib.hid hr
  clear hr
  have hb : ((w.alloc (.cells #[.int .i64 s.places, .slice q.wa q.wl q.wc, .int .i64 s.pn, .int .i64 s.pd, .slice q.ea q.el q.ec, .slice q.ca q.cl q.cc, .slice q.ga q.gl q.gc, .int .i64 s.allow, .int .i64 s.unit, .int .i64 s.cap, .int .i64 s.paidBreak, .int .i64 s.autoAfter, .int .i64 s.autoBreak, .int .i64 s.dayReg, .int .i64 s.dayOver, .int .i64 s.weekReg, .int .i64 s.nightFrom, .int .i64 s.nightTo, .slice q.ra q.rl q.rc, .int .i64 s.diff, .int .i64 s.least, .int .i64 s.fault, .slice q.ta q.tl q.tc] 30)).alloc (.cells #[.int .i64 x0, .int .i64 x1, .int .i64 x2, .int .i64 x3, .int .i64 x4, .int .i64 x5, .int .i64 x6] 31)).heap[w.heap.size]? = some (.cells #[.int .i64 s.places, .slice q.wa q.wl q.wc, .int .i64 s.pn, .int .i64 s.pd, .slice q.ea q.el q.ec, .slice q.ca q.cl q.cc, .slice q.ga q.gl q.gc, .int .i64 s.allow, .int .i64 s.unit, .int .i64 s.cap, .int .i64 s.paidBreak, .int .i64 s.autoAfter, .int .i64 s.autoBreak, .int .i64 s.dayReg, .int .i64 s.dayOver, .int .i64 s.weekReg, .int .i64 s.nightFrom, .int .i64 s.nightTo, .slice q.ra q.rl q.rc, .int .i64 s.diff, .int .i64 s.least, .int .i64 s.fault, .slice q.ta q.tl q.tc] 30) := box_keep (B := w.heap.size + 1) (by go_grown) (box_new w _ rfl _ _) (by omega)
  have hs : ((w.alloc (.cells #[.int .i64 s.places, .slice q.wa q.wl q.wc, .int .i64 s.pn, .int .i64 s.pd, .slice q.ea q.el q.ec, .slice q.ca q.cl q.cc, .slice q.ga q.gl q.gc, .int .i64 s.allow, .int .i64 s.unit, .int .i64 s.cap, .int .i64 s.paidBreak, .int .i64 s.autoAfter, .int .i64 s.autoBreak, .int .i64 s.dayReg, .int .i64 s.dayOver, .int .i64 s.weekReg, .int .i64 s.nightFrom, .int .i64 s.nightTo, .slice q.ra q.rl q.rc, .int .i64 s.diff, .int .i64 s.least, .int .i64 s.fault, .slice q.ta q.tl q.tc] 30)).alloc (.cells #[.int .i64 x0, .int .i64 x1, .int .i64 x2, .int .i64 x3, .int .i64 x4, .int .i64 x5, .int .i64 x6] 31)).heap[w.heap.size + 1]? = some (.cells #[.int .i64 x0, .int .i64 x1, .int .i64 x2, .int .i64 x3, .int .i64 x4, .int .i64 x5, .int .i64 x6] 31) := box_new _ _ (by simp) _ _
  have B0 : Below w.heap.size w ((w.alloc (.cells #[.int .i64 s.places, .slice q.wa q.wl q.wc, .int .i64 s.pn, .int .i64 s.pd, .slice q.ea q.el q.ec, .slice q.ca q.cl q.cc, .slice q.ga q.gl q.gc, .int .i64 s.allow, .int .i64 s.unit, .int .i64 s.cap, .int .i64 s.paidBreak, .int .i64 s.autoAfter, .int .i64 s.autoBreak, .int .i64 s.dayReg, .int .i64 s.dayOver, .int .i64 s.weekReg, .int .i64 s.nightFrom, .int .i64 s.nightTo, .slice q.ra q.rl q.rc, .int .i64 s.diff, .int .i64 s.least, .int .i64 s.fault, .slice q.ta q.tl q.tc] 30)).alloc (.cells #[.int .i64 x0, .int .i64 x1, .int .i64 x2, .int .i64 x3, .int .i64 x4, .int .i64 x5, .int .i64 x6] 31)) := by go_grown
  have z0 : w.heap.size + 1 < ((w.alloc (.cells #[.int .i64 s.places, .slice q.wa q.wl q.wc, .int .i64 s.pn, .int .i64 s.pd, .slice q.ea q.el q.ec, .slice q.ca q.cl q.cc, .slice q.ga q.gl q.gc, .int .i64 s.allow, .int .i64 s.unit, .int .i64 s.cap, .int .i64 s.paidBreak, .int .i64 s.autoAfter, .int .i64 s.autoBreak, .int .i64 s.dayReg, .int .i64 s.dayOver, .int .i64 s.weekReg, .int .i64 s.nightFrom, .int .i64 s.nightTo, .slice q.ra q.rl q.rc, .int .i64 s.diff, .int .i64 s.least, .int .i64 s.fault, .slice q.ta q.tl q.tc] 30)).alloc (.cells #[.int .i64 x0, .int .i64 x1, .int .i64 x2, .int .i64 x3, .int .i64 x4, .int .i64 x5, .int .i64 x6] 31)).heap.size := by simp
  have hl := h.rates.1
  have hsv := fun j hj => seven_cell hs j hj
  obtain ⟨X, hX⟩ : ∃ X, X = [x0, x1, x2, x3, x4, x5, x6] := ⟨_, rfl⟩
  rw [← hX] at hsv
  have HSV := Lib.hid hsv
  have hXl : X.length = 7 := by rw [hX]; rfl
  have HX := Lib.hid hX
  clear hsv hX
  go_enter Try.func18, Try.ntmps18
  go_wp2_with fail
  generalize ((w.alloc (.cells #[.int .i64 s.places, .slice q.wa q.wl q.wc, .int .i64 s.pn, .int .i64 s.pd, .slice q.ea q.el q.ec, .slice q.ca q.cl q.cc, .slice q.ga q.gl q.gc, .int .i64 s.allow, .int .i64 s.unit, .int .i64 s.cap, .int .i64 s.paidBreak, .int .i64 s.autoAfter, .int .i64 s.autoBreak, .int .i64 s.dayReg, .int .i64 s.dayOver, .int .i64 s.weekReg, .int .i64 s.nightFrom, .int .i64 s.nightTo, .slice q.ra q.rl q.rc, .int .i64 s.diff, .int .i64 s.least, .int .i64 s.fault, .slice q.ta q.tl q.tc] 30)).alloc (.cells #[.int .i64 x0, .int .i64 x1, .int .i64 x2, .int .i64 x3, .int .i64 x4, .int .i64 x5, .int .i64 x6] 31)) = W at *
  go_loop [7] (fun i => ∃ k : Nat, k ≤ 7 ∧ i = .int .i64 k ∧ allP 0 604800 X = allP 0 604800 (X.drop k)) (fun i => 7 - (intOf i).toNat)
  case atStart => exact ⟨0, Nat.zero_le _, rfl, by simp⟩
  case round =>
    obtain ⟨k, hk, rfl, hrest⟩ := hrel
    have HR := Lib.hid hrest
    clear hrest
    by_cases hlt : k < 7
    · have d0 := HSV.out k hlt
      have hd := drop_getD (l := X) (k := k) (by omega)
      have hki : (k : Int) < 7 := by omega
      generalize X.getD k 0 = x at *
      have hs2 : allP 0 604800 (X.drop k) = (decide (0 ≤ x) && decide (x ≤ 604800) && allP 0 604800 (X.drop (k + 1))) := by rw [hd, allP_cons]
      have HS2 := Lib.hid hs2
      have HD := Lib.hid hd
      clear hs2 hd
      by_cases h0 : x < 0
      · have hv : allP 0 604800 X = false := by rw [HR.out, HS2.out, decide_eq_false (show ¬ 0 ≤ x by omega)]; rfl
        have HV := Lib.hid hv
        clear hv
        go_wp2_with fail
        go_ret
        exact ⟨ret_bool (by rw [← HRR.out, ← HX.out]; unfold fairP; rw [HV.out]; rfl), B0⟩
      · have e0 : decide (x < 0) = false := by simp; omega
        by_cases h1 : 604800 < x
        · have hv : allP 0 604800 X = false := by rw [HR.out, HS2.out, decide_eq_false (show ¬ x ≤ 604800 by omega)]; simp
          have HV := Lib.hid hv
          clear hv
          go_wp2_with fail
          go_ret
          exact ⟨ret_bool (by rw [← HRR.out, ← HX.out]; unfold fairP; rw [HV.out]; rfl), B0⟩
        · have e1 : decide (604800 < x) = false := by simp; omega
          have hv : allP 0 604800 X = allP 0 604800 (X.drop (k + 1)) := by rw [HR.out, HS2.out, decide_eq_true (show 0 ≤ x by omega), decide_eq_true (show x ≤ 604800 by omega)]; rfl
          have HV := Lib.hid hv
          clear hv
          go_wp2_with fail
          go_round
          case rel => exact ⟨k + 1, by omega, by go_num, HV.out⟩
          case measure => simp [intOf]; omega
    · have hv : allP 0 604800 X = true := by rw [HR.out, List.drop_of_length_le (by omega)]; rfl
      have HV := Lib.hid hv
      clear hv
      obtain ⟨f, hf⟩ : ∃ f, fewP s = f := ⟨_, rfl⟩
      obtain ⟨c, hc⟩ : ∃ c, setupP s = c := ⟨_, rfl⟩
      have HF := Lib.hid hf
      have HC := Lib.hid hc
      clear hf hc
      go_wp2_with (refine wpList_load_box 30 (.tmp 3) rfl rfl (w.heap.size) rfl 30 #[.int .i64 s.places, .slice q.wa q.wl q.wc, .int .i64 s.pn, .int .i64 s.pd, .slice q.ea q.el q.ec, .slice q.ca q.cl q.cc, .slice q.ga q.gl q.gc, .int .i64 s.allow, .int .i64 s.unit, .int .i64 s.cap, .int .i64 s.paidBreak, .int .i64 s.autoAfter, .int .i64 s.autoBreak, .int .i64 s.dayReg, .int .i64 s.dayOver, .int .i64 s.weekReg, .int .i64 s.nightFrom, .int .i64 s.nightTo, .slice q.ra q.rl q.rc, .int .i64 s.diff, .int .i64 s.least, .int .i64 s.fault, .slice q.ta q.tl q.tc] hb setup_big ?_)
      refine (ref7_Few s q f _ (h.below B0) HF.out).mono ?_
      rintro e w1 ⟨rfl, k1⟩
      replace hb := box_keep k1 hb (by omega)
      replace B0 := B0.trans (k1.mono (by omega))
      replace z0 := Nat.lt_of_lt_of_le z0 k1.size
      clear k1 hs HSV
      cases f
      · go_wp2_with fail
        go_ret
        exact ⟨ret_bool (by rw [← HRR.out]; unfold fairP; rw [HF.out]; simp), B0⟩
      · go_wp2_with (refine wpList_load_box 30 (.tmp 3) rfl rfl (w.heap.size) rfl 30 #[.int .i64 s.places, .slice q.wa q.wl q.wc, .int .i64 s.pn, .int .i64 s.pd, .slice q.ea q.el q.ec, .slice q.ca q.cl q.cc, .slice q.ga q.gl q.gc, .int .i64 s.allow, .int .i64 s.unit, .int .i64 s.cap, .int .i64 s.paidBreak, .int .i64 s.autoAfter, .int .i64 s.autoBreak, .int .i64 s.dayReg, .int .i64 s.dayOver, .int .i64 s.weekReg, .int .i64 s.nightFrom, .int .i64 s.nightTo, .slice q.ra q.rl q.rc, .int .i64 s.diff, .int .i64 s.least, .int .i64 s.fault, .slice q.ta q.tl q.tc] hb setup_big ?_)
        refine (setup_Check s q c _ (h.below B0) HC.out).mono ?_
        rintro e w2 ⟨rfl, k2⟩
        have c18 : w2.cell? ⟨w.heap.size, 18, none⟩ = some (.slice q.ra q.rl q.rc) := by rw [cell_of_block (box_keep k2 hb (by omega))]; rfl
        replace B0 := B0.trans (k2.mono (by omega))
        clear k2 hb
        cases c
        · go_wp2_with fail
          go_ret
          exact ⟨ret_bool (by rw [← HRR.out]; unfold fairP; rw [HC.out]; simp), B0⟩
        · go_wp2_with fail
          all_goals
            go_ret
            exact ⟨ret_bool (by rw [← HRR.out, ← HX.out]; unfold fairP; rw [HV.out, HF.out, HC.out, hl]; clear HRR HX; first | (simp [*]; done) | (simp_all; done) | (simp_all; omega)), B0⟩

end Go.Proofs.Ytjcfflpiajefmaa
