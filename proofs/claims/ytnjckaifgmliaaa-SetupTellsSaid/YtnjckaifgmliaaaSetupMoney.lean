/- setup.money. -/
import Derived.Test.YtnjckaifgmliaaaSetup
set_option linter.unusedSimpArgs false
set_option linter.unusedVariables false
namespace Go.Proofs.Ytnjckaifgmliaaa
open Go.RowKit Lu


set_option maxHeartbeats 4000000 in
/-- setup.money. -/
theorem setup_money (s : Setup) (q : Slices) (r : Bool) (w : World) (h : SetupIs w s q) (hr : moneyP s = r) :
    Calls Try.prog 44 #[.agg #[.int .i64 s.places, .slice q.wa q.wl q.wc, .int .i64 s.pn, .int .i64 s.pd, .slice q.ea q.el q.ec, .slice q.ca q.cl q.cc, .slice q.ga q.gl q.gc, .int .i64 s.allow, .int .i64 s.unit, .int .i64 s.cap, .int .i64 s.paidBreak, .int .i64 s.autoAfter, .int .i64 s.autoBreak, .int .i64 s.dayReg, .int .i64 s.dayOver, .int .i64 s.weekReg, .int .i64 s.nightFrom, .int .i64 s.nightTo, .slice q.ra q.rl q.rc, .int .i64 s.diff, .int .i64 s.least, .int .i64 s.fault, .slice q.ta q.tl q.tc]] w fun e w' => e = .returned (.bool r) ∧ Below w.heap.size w w' := by
  by_cases c0 : (decide (0 < s.rates.length)) = true
  · by_cases c1 : (decide (s.rates.length ≤ 16)) = true
    · by_cases c2 : (allP 0 100000 s.rates) = true
      · by_cases c3 : (allP 0 100000 [s.diff, s.least]) = true
        · by_cases c4 : (decide (s.tiers.length ≤ 8)) = true
          · by_cases c5 : (tiersP (-1) s.tiers) = true
            · have hv : moneyP s = true := by unfold moneyP; rw [c0, c1, c2, c3, c4, c5] <;> rfl
              rw [hv] at hr
              subst hr
              have fc0 : decide (0 < q.rl) = true := by rw [← h.rates.1]; exact c0
              have fc1 : decide ((q.rl : Int) ≤ 16) = true := by have := h.rates.1; simp at c1 ⊢; omega
              have fc4 : decide ((q.tl : Int) ≤ 8) = true := by have := h.tiers.1; simp at c4 ⊢; omega
              have H0 := Lib.hid c0
              have H1 := Lib.hid c1
              have H2 := Lib.hid c2
              have H3 := Lib.hid c3
              have H4 := Lib.hid c4
              have H5 := Lib.hid c5
              clear hv c0 c1 c2 c3 c4 c5
              go_enter Try.func44, Try.ntmps44
              go_wp2_with fail
              refine (setup_all_is 0 100000 true _ _ _ s.rates _ (h.rates.below (by go_grown)) H2.out).mono ?_
              rintro e w1 ⟨rfl, k1⟩
              have B1 : Below (w.heap.size + 2) ((w.alloc (.cells #[.int .i64 s.places, .slice q.wa q.wl q.wc, .int .i64 s.pn, .int .i64 s.pd, .slice q.ea q.el q.ec, .slice q.ca q.cl q.cc, .slice q.ga q.gl q.gc, .int .i64 s.allow, .int .i64 s.unit, .int .i64 s.cap, .int .i64 s.paidBreak, .int .i64 s.autoAfter, .int .i64 s.autoBreak, .int .i64 s.dayReg, .int .i64 s.dayOver, .int .i64 s.weekReg, .int .i64 s.nightFrom, .int .i64 s.nightTo, .slice q.ra q.rl q.rc, .int .i64 s.diff, .int .i64 s.least, .int .i64 s.fault, .slice q.ta q.tl q.tc] 30)).alloc (.cells #[.int .i64 (-1)] 3)) w1 := (Below.trans (by go_grown) (k1.mono (by first | omega | (simp <;> omega))))
              clear k1
              obtain ⟨hc1, hf1⟩ := old_cells B1
              have z1 : w.heap.size + 2 ≤ w1.heap.size := by have := B1.size; simpa using this
              have Bw1 : Below w.heap.size w w1 := Below.trans (by go_grown) (B1.mono (by omega))
              go_wp2_with fail
              refine (setup_all_is 0 100000 true _ _ _ [s.diff, s.least] _ (Ints_new _ _ (by simp) _ _ 2 rfl (by simp [h.diff, h.least]) (by decide)) H3.out).mono ?_
              rintro e w2 ⟨rfl, k2⟩
              have B2 : Below (w.heap.size + 2) ((w.alloc (.cells #[.int .i64 s.places, .slice q.wa q.wl q.wc, .int .i64 s.pn, .int .i64 s.pd, .slice q.ea q.el q.ec, .slice q.ca q.cl q.cc, .slice q.ga q.gl q.gc, .int .i64 s.allow, .int .i64 s.unit, .int .i64 s.cap, .int .i64 s.paidBreak, .int .i64 s.autoAfter, .int .i64 s.autoBreak, .int .i64 s.dayReg, .int .i64 s.dayOver, .int .i64 s.weekReg, .int .i64 s.nightFrom, .int .i64 s.nightTo, .slice q.ra q.rl q.rc, .int .i64 s.diff, .int .i64 s.least, .int .i64 s.fault, .slice q.ta q.tl q.tc] 30)).alloc (.cells #[.int .i64 (-1)] 3)) w2 := B1.trans (Below.trans (by go_grown) (k2.mono (by first | omega | (simp <;> omega))))
              clear k2 hc1 hf1 z1
              obtain ⟨hc2, hf2⟩ := old_cells B2
              have z2 : w.heap.size + 2 ≤ w2.heap.size := by have := B2.size; simpa using this
              have Bw2 : Below w.heap.size w w2 := Below.trans (by go_grown) (B2.mono (by omega))
              go_wp2_with fail
              have hcall := contains_tier q.ta q.tl q.tc s.tiers (-1) (w.heap.size + 1) w w2 h.tiers Bw2 (by omega) (by rw [hc2 _ _ (by omega)]; simp [go_sem]) (by rw [hf2 _ _ (by omega)]; simp [go_sem])
              simp only [H5.out, Bool.not_true, Bool.not_false] at hcall
              refine (hcall).mono ?_
              rintro e w3 ⟨rfl, k3⟩
              have Bw3 : Below w.heap.size w w3 := k3
              go_wp2_with fail
              go_ret
              exact ⟨rfl, Bw3⟩
            · replace c5 := Bool.eq_false_iff.2 c5
              have hv : moneyP s = false := by unfold moneyP; rw [c0, c1, c2, c3, c4, c5] <;> rfl
              rw [hv] at hr
              subst hr
              have fc0 : decide (0 < q.rl) = true := by rw [← h.rates.1]; exact c0
              have fc1 : decide ((q.rl : Int) ≤ 16) = true := by have := h.rates.1; simp at c1 ⊢; omega
              have fc4 : decide ((q.tl : Int) ≤ 8) = true := by have := h.tiers.1; simp at c4 ⊢; omega
              have H0 := Lib.hid c0
              have H1 := Lib.hid c1
              have H2 := Lib.hid c2
              have H3 := Lib.hid c3
              have H4 := Lib.hid c4
              have H5 := Lib.hid c5
              clear hv c0 c1 c2 c3 c4 c5
              go_enter Try.func44, Try.ntmps44
              go_wp2_with fail
              refine (setup_all_is 0 100000 true _ _ _ s.rates _ (h.rates.below (by go_grown)) H2.out).mono ?_
              rintro e w1 ⟨rfl, k1⟩
              have B1 : Below (w.heap.size + 2) ((w.alloc (.cells #[.int .i64 s.places, .slice q.wa q.wl q.wc, .int .i64 s.pn, .int .i64 s.pd, .slice q.ea q.el q.ec, .slice q.ca q.cl q.cc, .slice q.ga q.gl q.gc, .int .i64 s.allow, .int .i64 s.unit, .int .i64 s.cap, .int .i64 s.paidBreak, .int .i64 s.autoAfter, .int .i64 s.autoBreak, .int .i64 s.dayReg, .int .i64 s.dayOver, .int .i64 s.weekReg, .int .i64 s.nightFrom, .int .i64 s.nightTo, .slice q.ra q.rl q.rc, .int .i64 s.diff, .int .i64 s.least, .int .i64 s.fault, .slice q.ta q.tl q.tc] 30)).alloc (.cells #[.int .i64 (-1)] 3)) w1 := (Below.trans (by go_grown) (k1.mono (by first | omega | (simp <;> omega))))
              clear k1
              obtain ⟨hc1, hf1⟩ := old_cells B1
              have z1 : w.heap.size + 2 ≤ w1.heap.size := by have := B1.size; simpa using this
              have Bw1 : Below w.heap.size w w1 := Below.trans (by go_grown) (B1.mono (by omega))
              go_wp2_with fail
              refine (setup_all_is 0 100000 true _ _ _ [s.diff, s.least] _ (Ints_new _ _ (by simp) _ _ 2 rfl (by simp [h.diff, h.least]) (by decide)) H3.out).mono ?_
              rintro e w2 ⟨rfl, k2⟩
              have B2 : Below (w.heap.size + 2) ((w.alloc (.cells #[.int .i64 s.places, .slice q.wa q.wl q.wc, .int .i64 s.pn, .int .i64 s.pd, .slice q.ea q.el q.ec, .slice q.ca q.cl q.cc, .slice q.ga q.gl q.gc, .int .i64 s.allow, .int .i64 s.unit, .int .i64 s.cap, .int .i64 s.paidBreak, .int .i64 s.autoAfter, .int .i64 s.autoBreak, .int .i64 s.dayReg, .int .i64 s.dayOver, .int .i64 s.weekReg, .int .i64 s.nightFrom, .int .i64 s.nightTo, .slice q.ra q.rl q.rc, .int .i64 s.diff, .int .i64 s.least, .int .i64 s.fault, .slice q.ta q.tl q.tc] 30)).alloc (.cells #[.int .i64 (-1)] 3)) w2 := B1.trans (Below.trans (by go_grown) (k2.mono (by first | omega | (simp <;> omega))))
              clear k2 hc1 hf1 z1
              obtain ⟨hc2, hf2⟩ := old_cells B2
              have z2 : w.heap.size + 2 ≤ w2.heap.size := by have := B2.size; simpa using this
              have Bw2 : Below w.heap.size w w2 := Below.trans (by go_grown) (B2.mono (by omega))
              go_wp2_with fail
              have hcall := contains_tier q.ta q.tl q.tc s.tiers (-1) (w.heap.size + 1) w w2 h.tiers Bw2 (by omega) (by rw [hc2 _ _ (by omega)]; simp [go_sem]) (by rw [hf2 _ _ (by omega)]; simp [go_sem])
              simp only [H5.out, Bool.not_true, Bool.not_false] at hcall
              refine (hcall).mono ?_
              rintro e w3 ⟨rfl, k3⟩
              have Bw3 : Below w.heap.size w w3 := k3
              go_wp2_with fail
              go_ret
              exact ⟨rfl, Bw3⟩
          · replace c4 := Bool.eq_false_iff.2 c4
            have hv : moneyP s = false := by unfold moneyP; rw [c0, c1, c2, c3, c4] <;> rfl
            rw [hv] at hr
            subst hr
            have fc0 : decide (0 < q.rl) = true := by rw [← h.rates.1]; exact c0
            have fc1 : decide ((q.rl : Int) ≤ 16) = true := by have := h.rates.1; simp at c1 ⊢; omega
            have fc4 : decide ((q.tl : Int) ≤ 8) = false := by have := h.tiers.1; simp at c4 ⊢; omega
            have H0 := Lib.hid c0
            have H1 := Lib.hid c1
            have H2 := Lib.hid c2
            have H3 := Lib.hid c3
            have H4 := Lib.hid c4
            clear hv c0 c1 c2 c3 c4
            go_enter Try.func44, Try.ntmps44
            go_wp2_with fail
            refine (setup_all_is 0 100000 true _ _ _ s.rates _ (h.rates.below (by go_grown)) H2.out).mono ?_
            rintro e w1 ⟨rfl, k1⟩
            have B1 : Below (w.heap.size + 2) ((w.alloc (.cells #[.int .i64 s.places, .slice q.wa q.wl q.wc, .int .i64 s.pn, .int .i64 s.pd, .slice q.ea q.el q.ec, .slice q.ca q.cl q.cc, .slice q.ga q.gl q.gc, .int .i64 s.allow, .int .i64 s.unit, .int .i64 s.cap, .int .i64 s.paidBreak, .int .i64 s.autoAfter, .int .i64 s.autoBreak, .int .i64 s.dayReg, .int .i64 s.dayOver, .int .i64 s.weekReg, .int .i64 s.nightFrom, .int .i64 s.nightTo, .slice q.ra q.rl q.rc, .int .i64 s.diff, .int .i64 s.least, .int .i64 s.fault, .slice q.ta q.tl q.tc] 30)).alloc (.cells #[.int .i64 (-1)] 3)) w1 := (Below.trans (by go_grown) (k1.mono (by first | omega | (simp <;> omega))))
            clear k1
            obtain ⟨hc1, hf1⟩ := old_cells B1
            have z1 : w.heap.size + 2 ≤ w1.heap.size := by have := B1.size; simpa using this
            have Bw1 : Below w.heap.size w w1 := Below.trans (by go_grown) (B1.mono (by omega))
            go_wp2_with fail
            refine (setup_all_is 0 100000 true _ _ _ [s.diff, s.least] _ (Ints_new _ _ (by simp) _ _ 2 rfl (by simp [h.diff, h.least]) (by decide)) H3.out).mono ?_
            rintro e w2 ⟨rfl, k2⟩
            have B2 : Below (w.heap.size + 2) ((w.alloc (.cells #[.int .i64 s.places, .slice q.wa q.wl q.wc, .int .i64 s.pn, .int .i64 s.pd, .slice q.ea q.el q.ec, .slice q.ca q.cl q.cc, .slice q.ga q.gl q.gc, .int .i64 s.allow, .int .i64 s.unit, .int .i64 s.cap, .int .i64 s.paidBreak, .int .i64 s.autoAfter, .int .i64 s.autoBreak, .int .i64 s.dayReg, .int .i64 s.dayOver, .int .i64 s.weekReg, .int .i64 s.nightFrom, .int .i64 s.nightTo, .slice q.ra q.rl q.rc, .int .i64 s.diff, .int .i64 s.least, .int .i64 s.fault, .slice q.ta q.tl q.tc] 30)).alloc (.cells #[.int .i64 (-1)] 3)) w2 := B1.trans (Below.trans (by go_grown) (k2.mono (by first | omega | (simp <;> omega))))
            clear k2 hc1 hf1 z1
            obtain ⟨hc2, hf2⟩ := old_cells B2
            have z2 : w.heap.size + 2 ≤ w2.heap.size := by have := B2.size; simpa using this
            have Bw2 : Below w.heap.size w w2 := Below.trans (by go_grown) (B2.mono (by omega))
            go_wp2_with fail
            go_ret
            exact ⟨rfl, Bw2⟩
        · replace c3 := Bool.eq_false_iff.2 c3
          have hv : moneyP s = false := by unfold moneyP; rw [c0, c1, c2, c3] <;> rfl
          rw [hv] at hr
          subst hr
          have fc0 : decide (0 < q.rl) = true := by rw [← h.rates.1]; exact c0
          have fc1 : decide ((q.rl : Int) ≤ 16) = true := by have := h.rates.1; simp at c1 ⊢; omega
          have H0 := Lib.hid c0
          have H1 := Lib.hid c1
          have H2 := Lib.hid c2
          have H3 := Lib.hid c3
          clear hv c0 c1 c2 c3
          go_enter Try.func44, Try.ntmps44
          go_wp2_with fail
          refine (setup_all_is 0 100000 true _ _ _ s.rates _ (h.rates.below (by go_grown)) H2.out).mono ?_
          rintro e w1 ⟨rfl, k1⟩
          have B1 : Below (w.heap.size + 2) ((w.alloc (.cells #[.int .i64 s.places, .slice q.wa q.wl q.wc, .int .i64 s.pn, .int .i64 s.pd, .slice q.ea q.el q.ec, .slice q.ca q.cl q.cc, .slice q.ga q.gl q.gc, .int .i64 s.allow, .int .i64 s.unit, .int .i64 s.cap, .int .i64 s.paidBreak, .int .i64 s.autoAfter, .int .i64 s.autoBreak, .int .i64 s.dayReg, .int .i64 s.dayOver, .int .i64 s.weekReg, .int .i64 s.nightFrom, .int .i64 s.nightTo, .slice q.ra q.rl q.rc, .int .i64 s.diff, .int .i64 s.least, .int .i64 s.fault, .slice q.ta q.tl q.tc] 30)).alloc (.cells #[.int .i64 (-1)] 3)) w1 := (Below.trans (by go_grown) (k1.mono (by first | omega | (simp <;> omega))))
          clear k1
          obtain ⟨hc1, hf1⟩ := old_cells B1
          have z1 : w.heap.size + 2 ≤ w1.heap.size := by have := B1.size; simpa using this
          have Bw1 : Below w.heap.size w w1 := Below.trans (by go_grown) (B1.mono (by omega))
          go_wp2_with fail
          refine (setup_all_is 0 100000 false _ _ _ [s.diff, s.least] _ (Ints_new _ _ (by simp) _ _ 2 rfl (by simp [h.diff, h.least]) (by decide)) H3.out).mono ?_
          rintro e w2 ⟨rfl, k2⟩
          have B2 : Below (w.heap.size + 2) ((w.alloc (.cells #[.int .i64 s.places, .slice q.wa q.wl q.wc, .int .i64 s.pn, .int .i64 s.pd, .slice q.ea q.el q.ec, .slice q.ca q.cl q.cc, .slice q.ga q.gl q.gc, .int .i64 s.allow, .int .i64 s.unit, .int .i64 s.cap, .int .i64 s.paidBreak, .int .i64 s.autoAfter, .int .i64 s.autoBreak, .int .i64 s.dayReg, .int .i64 s.dayOver, .int .i64 s.weekReg, .int .i64 s.nightFrom, .int .i64 s.nightTo, .slice q.ra q.rl q.rc, .int .i64 s.diff, .int .i64 s.least, .int .i64 s.fault, .slice q.ta q.tl q.tc] 30)).alloc (.cells #[.int .i64 (-1)] 3)) w2 := B1.trans (Below.trans (by go_grown) (k2.mono (by first | omega | (simp <;> omega))))
          clear k2 hc1 hf1 z1
          obtain ⟨hc2, hf2⟩ := old_cells B2
          have z2 : w.heap.size + 2 ≤ w2.heap.size := by have := B2.size; simpa using this
          have Bw2 : Below w.heap.size w w2 := Below.trans (by go_grown) (B2.mono (by omega))
          go_wp2_with fail
          go_ret
          exact ⟨rfl, Bw2⟩
      · replace c2 := Bool.eq_false_iff.2 c2
        have hv : moneyP s = false := by unfold moneyP; rw [c0, c1, c2] <;> rfl
        rw [hv] at hr
        subst hr
        have fc0 : decide (0 < q.rl) = true := by rw [← h.rates.1]; exact c0
        have fc1 : decide ((q.rl : Int) ≤ 16) = true := by have := h.rates.1; simp at c1 ⊢; omega
        have H0 := Lib.hid c0
        have H1 := Lib.hid c1
        have H2 := Lib.hid c2
        clear hv c0 c1 c2
        go_enter Try.func44, Try.ntmps44
        go_wp2_with fail
        refine (setup_all_is 0 100000 false _ _ _ s.rates _ (h.rates.below (by go_grown)) H2.out).mono ?_
        rintro e w1 ⟨rfl, k1⟩
        have B1 : Below (w.heap.size + 2) ((w.alloc (.cells #[.int .i64 s.places, .slice q.wa q.wl q.wc, .int .i64 s.pn, .int .i64 s.pd, .slice q.ea q.el q.ec, .slice q.ca q.cl q.cc, .slice q.ga q.gl q.gc, .int .i64 s.allow, .int .i64 s.unit, .int .i64 s.cap, .int .i64 s.paidBreak, .int .i64 s.autoAfter, .int .i64 s.autoBreak, .int .i64 s.dayReg, .int .i64 s.dayOver, .int .i64 s.weekReg, .int .i64 s.nightFrom, .int .i64 s.nightTo, .slice q.ra q.rl q.rc, .int .i64 s.diff, .int .i64 s.least, .int .i64 s.fault, .slice q.ta q.tl q.tc] 30)).alloc (.cells #[.int .i64 (-1)] 3)) w1 := (Below.trans (by go_grown) (k1.mono (by first | omega | (simp <;> omega))))
        clear k1
        obtain ⟨hc1, hf1⟩ := old_cells B1
        have z1 : w.heap.size + 2 ≤ w1.heap.size := by have := B1.size; simpa using this
        have Bw1 : Below w.heap.size w w1 := Below.trans (by go_grown) (B1.mono (by omega))
        go_wp2_with fail
        go_ret
        exact ⟨rfl, Bw1⟩
    · replace c1 := Bool.eq_false_iff.2 c1
      have hv : moneyP s = false := by unfold moneyP; rw [c0, c1] <;> rfl
      rw [hv] at hr
      subst hr
      have fc0 : decide (0 < q.rl) = true := by rw [← h.rates.1]; exact c0
      have fc1 : decide ((q.rl : Int) ≤ 16) = false := by have := h.rates.1; simp at c1 ⊢; omega
      have H0 := Lib.hid c0
      have H1 := Lib.hid c1
      clear hv c0 c1
      go_enter Try.func44, Try.ntmps44
      go_wp2_with fail
      go_ret
      exact ⟨rfl, by go_grown⟩
  · replace c0 := Bool.eq_false_iff.2 c0
    have hv : moneyP s = false := by unfold moneyP; rw [c0] <;> rfl
    rw [hv] at hr
    subst hr
    have fc0 : decide (0 < q.rl) = false := by rw [← h.rates.1]; exact c0
    have H0 := Lib.hid c0
    clear hv c0
    go_enter Try.func44, Try.ntmps44
    go_wp2_with fail
    go_ret
    exact ⟨rfl, by go_grown⟩
end Go.Proofs.Ytnjckaifgmliaaa
