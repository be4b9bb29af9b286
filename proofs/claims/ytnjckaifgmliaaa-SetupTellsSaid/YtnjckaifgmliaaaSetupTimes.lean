/- setup.times. -/
import Derived.Test.YtnjckaifgmliaaaSetup
set_option linter.unusedSimpArgs false
set_option linter.unusedVariables false
namespace Go.Proofs.Ytnjckaifgmliaaa
open Go.RowKit Lu


set_option maxHeartbeats 4000000 in
/-- setup.times. -/
theorem setup_times (s : Setup) (q : Slices) (r : Bool) (w : World) (h : SetupIs w s q) (hr : timesP s = r) :
    Calls Try.prog 43 #[.agg #[.int .i64 s.places, .slice q.wa q.wl q.wc, .int .i64 s.pn, .int .i64 s.pd, .slice q.ea q.el q.ec, .slice q.ca q.cl q.cc, .slice q.ga q.gl q.gc, .int .i64 s.allow, .int .i64 s.unit, .int .i64 s.cap, .int .i64 s.paidBreak, .int .i64 s.autoAfter, .int .i64 s.autoBreak, .int .i64 s.dayReg, .int .i64 s.dayOver, .int .i64 s.weekReg, .int .i64 s.nightFrom, .int .i64 s.nightTo, .slice q.ra q.rl q.rc, .int .i64 s.diff, .int .i64 s.least, .int .i64 s.fault, .slice q.ta q.tl q.tc]] w fun e w' => e = .returned (.bool r) ∧ Below w.heap.size w w' := by
  by_cases c0 : (allP 0 100 [s.allow]) = true
  · by_cases c1 : (allP 1 3600 [s.unit]) = true
    · by_cases c2 : (allP 60 57600 [s.cap]) = true
      · by_cases c3 : (allP 0 86400 [s.paidBreak, s.autoAfter, s.autoBreak, s.nightFrom, s.nightTo, s.fault, s.dayOver]) = true
        · by_cases c4 : (allP 0 s.dayOver [s.dayReg]) = true
          · by_cases c5 : (allP 0 604800 [s.weekReg]) = true
            · have hv : timesP s = true := by unfold timesP; rw [c0, c1, c2, c3, c4, c5] <;> rfl
              rw [hv] at hr
              subst hr
              have H0 := Lib.hid c0
              have H1 := Lib.hid c1
              have H2 := Lib.hid c2
              have H3 := Lib.hid c3
              have H4 := Lib.hid c4
              have H5 := Lib.hid c5
              clear hv c0 c1 c2 c3 c4 c5
              go_enter Try.func43, Try.ntmps43
              go_wp2_with fail
              refine (setup_all_is 0 100 true _ _ _ [s.allow] _ (Ints_new _ _ (by simp) _ _ 1 rfl (by simp [h.allow]) (by decide)) H0.out).mono ?_
              rintro e w1 ⟨rfl, k1⟩
              have B1 : Below (w.heap.size + 1) (w.alloc (.cells #[.int .i64 s.places, .slice q.wa q.wl q.wc, .int .i64 s.pn, .int .i64 s.pd, .slice q.ea q.el q.ec, .slice q.ca q.cl q.cc, .slice q.ga q.gl q.gc, .int .i64 s.allow, .int .i64 s.unit, .int .i64 s.cap, .int .i64 s.paidBreak, .int .i64 s.autoAfter, .int .i64 s.autoBreak, .int .i64 s.dayReg, .int .i64 s.dayOver, .int .i64 s.weekReg, .int .i64 s.nightFrom, .int .i64 s.nightTo, .slice q.ra q.rl q.rc, .int .i64 s.diff, .int .i64 s.least, .int .i64 s.fault, .slice q.ta q.tl q.tc] 30)) w1 := (Below.trans (by go_grown) (k1.mono (by first | omega | (simp <;> omega))))
              clear k1
              obtain ⟨hc1, hf1⟩ := old_cells B1
              have z1 : w.heap.size + 1 ≤ w1.heap.size := by have := B1.size; simpa using this
              have Bw1 : Below w.heap.size w w1 := Below.trans (by go_grown) (B1.mono (by omega))
              go_wp2_with fail
              refine (setup_all_is 1 3600 true _ _ _ [s.unit] _ (Ints_new _ _ (by simp) _ _ 1 rfl (by simp [h.unit]) (by decide)) H1.out).mono ?_
              rintro e w2 ⟨rfl, k2⟩
              have B2 : Below (w.heap.size + 1) (w.alloc (.cells #[.int .i64 s.places, .slice q.wa q.wl q.wc, .int .i64 s.pn, .int .i64 s.pd, .slice q.ea q.el q.ec, .slice q.ca q.cl q.cc, .slice q.ga q.gl q.gc, .int .i64 s.allow, .int .i64 s.unit, .int .i64 s.cap, .int .i64 s.paidBreak, .int .i64 s.autoAfter, .int .i64 s.autoBreak, .int .i64 s.dayReg, .int .i64 s.dayOver, .int .i64 s.weekReg, .int .i64 s.nightFrom, .int .i64 s.nightTo, .slice q.ra q.rl q.rc, .int .i64 s.diff, .int .i64 s.least, .int .i64 s.fault, .slice q.ta q.tl q.tc] 30)) w2 := B1.trans (Below.trans (by go_grown) (k2.mono (by first | omega | (simp <;> omega))))
              clear k2 hc1 hf1 z1
              obtain ⟨hc2, hf2⟩ := old_cells B2
              have z2 : w.heap.size + 1 ≤ w2.heap.size := by have := B2.size; simpa using this
              have Bw2 : Below w.heap.size w w2 := Below.trans (by go_grown) (B2.mono (by omega))
              go_wp2_with fail
              refine (setup_all_is 60 57600 true _ _ _ [s.cap] _ (Ints_new _ _ (by simp) _ _ 1 rfl (by simp [h.cap]) (by decide)) H2.out).mono ?_
              rintro e w3 ⟨rfl, k3⟩
              have B3 : Below (w.heap.size + 1) (w.alloc (.cells #[.int .i64 s.places, .slice q.wa q.wl q.wc, .int .i64 s.pn, .int .i64 s.pd, .slice q.ea q.el q.ec, .slice q.ca q.cl q.cc, .slice q.ga q.gl q.gc, .int .i64 s.allow, .int .i64 s.unit, .int .i64 s.cap, .int .i64 s.paidBreak, .int .i64 s.autoAfter, .int .i64 s.autoBreak, .int .i64 s.dayReg, .int .i64 s.dayOver, .int .i64 s.weekReg, .int .i64 s.nightFrom, .int .i64 s.nightTo, .slice q.ra q.rl q.rc, .int .i64 s.diff, .int .i64 s.least, .int .i64 s.fault, .slice q.ta q.tl q.tc] 30)) w3 := B2.trans (Below.trans (by go_grown) (k3.mono (by first | omega | (simp <;> omega))))
              clear k3 hc2 hf2 z2
              obtain ⟨hc3, hf3⟩ := old_cells B3
              have z3 : w.heap.size + 1 ≤ w3.heap.size := by have := B3.size; simpa using this
              have Bw3 : Below w.heap.size w w3 := Below.trans (by go_grown) (B3.mono (by omega))
              go_wp2_with fail
              refine (setup_all_is 0 86400 true _ _ _ [s.paidBreak, s.autoAfter, s.autoBreak, s.nightFrom, s.nightTo, s.fault, s.dayOver] _ (Ints_new _ _ (by simp) _ _ 7 rfl (by simp [h.paidBreak, h.autoAfter, h.autoBreak, h.nightFrom, h.nightTo, h.fault, h.dayOver]) (by decide)) H3.out).mono ?_
              rintro e w4 ⟨rfl, k4⟩
              have B4 : Below (w.heap.size + 1) (w.alloc (.cells #[.int .i64 s.places, .slice q.wa q.wl q.wc, .int .i64 s.pn, .int .i64 s.pd, .slice q.ea q.el q.ec, .slice q.ca q.cl q.cc, .slice q.ga q.gl q.gc, .int .i64 s.allow, .int .i64 s.unit, .int .i64 s.cap, .int .i64 s.paidBreak, .int .i64 s.autoAfter, .int .i64 s.autoBreak, .int .i64 s.dayReg, .int .i64 s.dayOver, .int .i64 s.weekReg, .int .i64 s.nightFrom, .int .i64 s.nightTo, .slice q.ra q.rl q.rc, .int .i64 s.diff, .int .i64 s.least, .int .i64 s.fault, .slice q.ta q.tl q.tc] 30)) w4 := B3.trans (Below.trans (by go_grown) (k4.mono (by first | omega | (simp <;> omega))))
              clear k4 hc3 hf3 z3
              obtain ⟨hc4, hf4⟩ := old_cells B4
              have z4 : w.heap.size + 1 ≤ w4.heap.size := by have := B4.size; simpa using this
              have Bw4 : Below w.heap.size w w4 := Below.trans (by go_grown) (B4.mono (by omega))
              go_wp2_with fail
              refine (setup_all_is 0 s.dayOver true _ _ _ [s.dayReg] _ (Ints_new _ _ (by simp) _ _ 1 rfl (by simp [h.dayReg]) (by decide)) H4.out).mono ?_
              rintro e w5 ⟨rfl, k5⟩
              have B5 : Below (w.heap.size + 1) (w.alloc (.cells #[.int .i64 s.places, .slice q.wa q.wl q.wc, .int .i64 s.pn, .int .i64 s.pd, .slice q.ea q.el q.ec, .slice q.ca q.cl q.cc, .slice q.ga q.gl q.gc, .int .i64 s.allow, .int .i64 s.unit, .int .i64 s.cap, .int .i64 s.paidBreak, .int .i64 s.autoAfter, .int .i64 s.autoBreak, .int .i64 s.dayReg, .int .i64 s.dayOver, .int .i64 s.weekReg, .int .i64 s.nightFrom, .int .i64 s.nightTo, .slice q.ra q.rl q.rc, .int .i64 s.diff, .int .i64 s.least, .int .i64 s.fault, .slice q.ta q.tl q.tc] 30)) w5 := B4.trans (Below.trans (by go_grown) (k5.mono (by first | omega | (simp <;> omega))))
              clear k5 hc4 hf4 z4
              obtain ⟨hc5, hf5⟩ := old_cells B5
              have z5 : w.heap.size + 1 ≤ w5.heap.size := by have := B5.size; simpa using this
              have Bw5 : Below w.heap.size w w5 := Below.trans (by go_grown) (B5.mono (by omega))
              go_wp2_with fail
              refine (setup_all_is 0 604800 true _ _ _ [s.weekReg] _ (Ints_new _ _ (by simp) _ _ 1 rfl (by simp [h.weekReg]) (by decide)) H5.out).mono ?_
              rintro e w6 ⟨rfl, k6⟩
              have B6 : Below (w.heap.size + 1) (w.alloc (.cells #[.int .i64 s.places, .slice q.wa q.wl q.wc, .int .i64 s.pn, .int .i64 s.pd, .slice q.ea q.el q.ec, .slice q.ca q.cl q.cc, .slice q.ga q.gl q.gc, .int .i64 s.allow, .int .i64 s.unit, .int .i64 s.cap, .int .i64 s.paidBreak, .int .i64 s.autoAfter, .int .i64 s.autoBreak, .int .i64 s.dayReg, .int .i64 s.dayOver, .int .i64 s.weekReg, .int .i64 s.nightFrom, .int .i64 s.nightTo, .slice q.ra q.rl q.rc, .int .i64 s.diff, .int .i64 s.least, .int .i64 s.fault, .slice q.ta q.tl q.tc] 30)) w6 := B5.trans (Below.trans (by go_grown) (k6.mono (by first | omega | (simp <;> omega))))
              clear k6 hc5 hf5 z5
              obtain ⟨hc6, hf6⟩ := old_cells B6
              have z6 : w.heap.size + 1 ≤ w6.heap.size := by have := B6.size; simpa using this
              have Bw6 : Below w.heap.size w w6 := Below.trans (by go_grown) (B6.mono (by omega))
              go_wp2_with fail
              go_ret
              exact ⟨rfl, Bw6⟩
            · replace c5 := Bool.eq_false_iff.2 c5
              have hv : timesP s = false := by unfold timesP; rw [c0, c1, c2, c3, c4, c5] <;> rfl
              rw [hv] at hr
              subst hr
              have H0 := Lib.hid c0
              have H1 := Lib.hid c1
              have H2 := Lib.hid c2
              have H3 := Lib.hid c3
              have H4 := Lib.hid c4
              have H5 := Lib.hid c5
              clear hv c0 c1 c2 c3 c4 c5
              go_enter Try.func43, Try.ntmps43
              go_wp2_with fail
              refine (setup_all_is 0 100 true _ _ _ [s.allow] _ (Ints_new _ _ (by simp) _ _ 1 rfl (by simp [h.allow]) (by decide)) H0.out).mono ?_
              rintro e w1 ⟨rfl, k1⟩
              have B1 : Below (w.heap.size + 1) (w.alloc (.cells #[.int .i64 s.places, .slice q.wa q.wl q.wc, .int .i64 s.pn, .int .i64 s.pd, .slice q.ea q.el q.ec, .slice q.ca q.cl q.cc, .slice q.ga q.gl q.gc, .int .i64 s.allow, .int .i64 s.unit, .int .i64 s.cap, .int .i64 s.paidBreak, .int .i64 s.autoAfter, .int .i64 s.autoBreak, .int .i64 s.dayReg, .int .i64 s.dayOver, .int .i64 s.weekReg, .int .i64 s.nightFrom, .int .i64 s.nightTo, .slice q.ra q.rl q.rc, .int .i64 s.diff, .int .i64 s.least, .int .i64 s.fault, .slice q.ta q.tl q.tc] 30)) w1 := (Below.trans (by go_grown) (k1.mono (by first | omega | (simp <;> omega))))
              clear k1
              obtain ⟨hc1, hf1⟩ := old_cells B1
              have z1 : w.heap.size + 1 ≤ w1.heap.size := by have := B1.size; simpa using this
              have Bw1 : Below w.heap.size w w1 := Below.trans (by go_grown) (B1.mono (by omega))
              go_wp2_with fail
              refine (setup_all_is 1 3600 true _ _ _ [s.unit] _ (Ints_new _ _ (by simp) _ _ 1 rfl (by simp [h.unit]) (by decide)) H1.out).mono ?_
              rintro e w2 ⟨rfl, k2⟩
              have B2 : Below (w.heap.size + 1) (w.alloc (.cells #[.int .i64 s.places, .slice q.wa q.wl q.wc, .int .i64 s.pn, .int .i64 s.pd, .slice q.ea q.el q.ec, .slice q.ca q.cl q.cc, .slice q.ga q.gl q.gc, .int .i64 s.allow, .int .i64 s.unit, .int .i64 s.cap, .int .i64 s.paidBreak, .int .i64 s.autoAfter, .int .i64 s.autoBreak, .int .i64 s.dayReg, .int .i64 s.dayOver, .int .i64 s.weekReg, .int .i64 s.nightFrom, .int .i64 s.nightTo, .slice q.ra q.rl q.rc, .int .i64 s.diff, .int .i64 s.least, .int .i64 s.fault, .slice q.ta q.tl q.tc] 30)) w2 := B1.trans (Below.trans (by go_grown) (k2.mono (by first | omega | (simp <;> omega))))
              clear k2 hc1 hf1 z1
              obtain ⟨hc2, hf2⟩ := old_cells B2
              have z2 : w.heap.size + 1 ≤ w2.heap.size := by have := B2.size; simpa using this
              have Bw2 : Below w.heap.size w w2 := Below.trans (by go_grown) (B2.mono (by omega))
              go_wp2_with fail
              refine (setup_all_is 60 57600 true _ _ _ [s.cap] _ (Ints_new _ _ (by simp) _ _ 1 rfl (by simp [h.cap]) (by decide)) H2.out).mono ?_
              rintro e w3 ⟨rfl, k3⟩
              have B3 : Below (w.heap.size + 1) (w.alloc (.cells #[.int .i64 s.places, .slice q.wa q.wl q.wc, .int .i64 s.pn, .int .i64 s.pd, .slice q.ea q.el q.ec, .slice q.ca q.cl q.cc, .slice q.ga q.gl q.gc, .int .i64 s.allow, .int .i64 s.unit, .int .i64 s.cap, .int .i64 s.paidBreak, .int .i64 s.autoAfter, .int .i64 s.autoBreak, .int .i64 s.dayReg, .int .i64 s.dayOver, .int .i64 s.weekReg, .int .i64 s.nightFrom, .int .i64 s.nightTo, .slice q.ra q.rl q.rc, .int .i64 s.diff, .int .i64 s.least, .int .i64 s.fault, .slice q.ta q.tl q.tc] 30)) w3 := B2.trans (Below.trans (by go_grown) (k3.mono (by first | omega | (simp <;> omega))))
              clear k3 hc2 hf2 z2
              obtain ⟨hc3, hf3⟩ := old_cells B3
              have z3 : w.heap.size + 1 ≤ w3.heap.size := by have := B3.size; simpa using this
              have Bw3 : Below w.heap.size w w3 := Below.trans (by go_grown) (B3.mono (by omega))
              go_wp2_with fail
              refine (setup_all_is 0 86400 true _ _ _ [s.paidBreak, s.autoAfter, s.autoBreak, s.nightFrom, s.nightTo, s.fault, s.dayOver] _ (Ints_new _ _ (by simp) _ _ 7 rfl (by simp [h.paidBreak, h.autoAfter, h.autoBreak, h.nightFrom, h.nightTo, h.fault, h.dayOver]) (by decide)) H3.out).mono ?_
              rintro e w4 ⟨rfl, k4⟩
              have B4 : Below (w.heap.size + 1) (w.alloc (.cells #[.int .i64 s.places, .slice q.wa q.wl q.wc, .int .i64 s.pn, .int .i64 s.pd, .slice q.ea q.el q.ec, .slice q.ca q.cl q.cc, .slice q.ga q.gl q.gc, .int .i64 s.allow, .int .i64 s.unit, .int .i64 s.cap, .int .i64 s.paidBreak, .int .i64 s.autoAfter, .int .i64 s.autoBreak, .int .i64 s.dayReg, .int .i64 s.dayOver, .int .i64 s.weekReg, .int .i64 s.nightFrom, .int .i64 s.nightTo, .slice q.ra q.rl q.rc, .int .i64 s.diff, .int .i64 s.least, .int .i64 s.fault, .slice q.ta q.tl q.tc] 30)) w4 := B3.trans (Below.trans (by go_grown) (k4.mono (by first | omega | (simp <;> omega))))
              clear k4 hc3 hf3 z3
              obtain ⟨hc4, hf4⟩ := old_cells B4
              have z4 : w.heap.size + 1 ≤ w4.heap.size := by have := B4.size; simpa using this
              have Bw4 : Below w.heap.size w w4 := Below.trans (by go_grown) (B4.mono (by omega))
              go_wp2_with fail
              refine (setup_all_is 0 s.dayOver true _ _ _ [s.dayReg] _ (Ints_new _ _ (by simp) _ _ 1 rfl (by simp [h.dayReg]) (by decide)) H4.out).mono ?_
              rintro e w5 ⟨rfl, k5⟩
              have B5 : Below (w.heap.size + 1) (w.alloc (.cells #[.int .i64 s.places, .slice q.wa q.wl q.wc, .int .i64 s.pn, .int .i64 s.pd, .slice q.ea q.el q.ec, .slice q.ca q.cl q.cc, .slice q.ga q.gl q.gc, .int .i64 s.allow, .int .i64 s.unit, .int .i64 s.cap, .int .i64 s.paidBreak, .int .i64 s.autoAfter, .int .i64 s.autoBreak, .int .i64 s.dayReg, .int .i64 s.dayOver, .int .i64 s.weekReg, .int .i64 s.nightFrom, .int .i64 s.nightTo, .slice q.ra q.rl q.rc, .int .i64 s.diff, .int .i64 s.least, .int .i64 s.fault, .slice q.ta q.tl q.tc] 30)) w5 := B4.trans (Below.trans (by go_grown) (k5.mono (by first | omega | (simp <;> omega))))
              clear k5 hc4 hf4 z4
              obtain ⟨hc5, hf5⟩ := old_cells B5
              have z5 : w.heap.size + 1 ≤ w5.heap.size := by have := B5.size; simpa using this
              have Bw5 : Below w.heap.size w w5 := Below.trans (by go_grown) (B5.mono (by omega))
              go_wp2_with fail
              refine (setup_all_is 0 604800 false _ _ _ [s.weekReg] _ (Ints_new _ _ (by simp) _ _ 1 rfl (by simp [h.weekReg]) (by decide)) H5.out).mono ?_
              rintro e w6 ⟨rfl, k6⟩
              have B6 : Below (w.heap.size + 1) (w.alloc (.cells #[.int .i64 s.places, .slice q.wa q.wl q.wc, .int .i64 s.pn, .int .i64 s.pd, .slice q.ea q.el q.ec, .slice q.ca q.cl q.cc, .slice q.ga q.gl q.gc, .int .i64 s.allow, .int .i64 s.unit, .int .i64 s.cap, .int .i64 s.paidBreak, .int .i64 s.autoAfter, .int .i64 s.autoBreak, .int .i64 s.dayReg, .int .i64 s.dayOver, .int .i64 s.weekReg, .int .i64 s.nightFrom, .int .i64 s.nightTo, .slice q.ra q.rl q.rc, .int .i64 s.diff, .int .i64 s.least, .int .i64 s.fault, .slice q.ta q.tl q.tc] 30)) w6 := B5.trans (Below.trans (by go_grown) (k6.mono (by first | omega | (simp <;> omega))))
              clear k6 hc5 hf5 z5
              obtain ⟨hc6, hf6⟩ := old_cells B6
              have z6 : w.heap.size + 1 ≤ w6.heap.size := by have := B6.size; simpa using this
              have Bw6 : Below w.heap.size w w6 := Below.trans (by go_grown) (B6.mono (by omega))
              go_wp2_with fail
              go_ret
              exact ⟨rfl, Bw6⟩
          · replace c4 := Bool.eq_false_iff.2 c4
            have hv : timesP s = false := by unfold timesP; rw [c0, c1, c2, c3, c4] <;> rfl
            rw [hv] at hr
            subst hr
            have H0 := Lib.hid c0
            have H1 := Lib.hid c1
            have H2 := Lib.hid c2
            have H3 := Lib.hid c3
            have H4 := Lib.hid c4
            clear hv c0 c1 c2 c3 c4
            go_enter Try.func43, Try.ntmps43
            go_wp2_with fail
            refine (setup_all_is 0 100 true _ _ _ [s.allow] _ (Ints_new _ _ (by simp) _ _ 1 rfl (by simp [h.allow]) (by decide)) H0.out).mono ?_
            rintro e w1 ⟨rfl, k1⟩
            have B1 : Below (w.heap.size + 1) (w.alloc (.cells #[.int .i64 s.places, .slice q.wa q.wl q.wc, .int .i64 s.pn, .int .i64 s.pd, .slice q.ea q.el q.ec, .slice q.ca q.cl q.cc, .slice q.ga q.gl q.gc, .int .i64 s.allow, .int .i64 s.unit, .int .i64 s.cap, .int .i64 s.paidBreak, .int .i64 s.autoAfter, .int .i64 s.autoBreak, .int .i64 s.dayReg, .int .i64 s.dayOver, .int .i64 s.weekReg, .int .i64 s.nightFrom, .int .i64 s.nightTo, .slice q.ra q.rl q.rc, .int .i64 s.diff, .int .i64 s.least, .int .i64 s.fault, .slice q.ta q.tl q.tc] 30)) w1 := (Below.trans (by go_grown) (k1.mono (by first | omega | (simp <;> omega))))
            clear k1
            obtain ⟨hc1, hf1⟩ := old_cells B1
            have z1 : w.heap.size + 1 ≤ w1.heap.size := by have := B1.size; simpa using this
            have Bw1 : Below w.heap.size w w1 := Below.trans (by go_grown) (B1.mono (by omega))
            go_wp2_with fail
            refine (setup_all_is 1 3600 true _ _ _ [s.unit] _ (Ints_new _ _ (by simp) _ _ 1 rfl (by simp [h.unit]) (by decide)) H1.out).mono ?_
            rintro e w2 ⟨rfl, k2⟩
            have B2 : Below (w.heap.size + 1) (w.alloc (.cells #[.int .i64 s.places, .slice q.wa q.wl q.wc, .int .i64 s.pn, .int .i64 s.pd, .slice q.ea q.el q.ec, .slice q.ca q.cl q.cc, .slice q.ga q.gl q.gc, .int .i64 s.allow, .int .i64 s.unit, .int .i64 s.cap, .int .i64 s.paidBreak, .int .i64 s.autoAfter, .int .i64 s.autoBreak, .int .i64 s.dayReg, .int .i64 s.dayOver, .int .i64 s.weekReg, .int .i64 s.nightFrom, .int .i64 s.nightTo, .slice q.ra q.rl q.rc, .int .i64 s.diff, .int .i64 s.least, .int .i64 s.fault, .slice q.ta q.tl q.tc] 30)) w2 := B1.trans (Below.trans (by go_grown) (k2.mono (by first | omega | (simp <;> omega))))
            clear k2 hc1 hf1 z1
            obtain ⟨hc2, hf2⟩ := old_cells B2
            have z2 : w.heap.size + 1 ≤ w2.heap.size := by have := B2.size; simpa using this
            have Bw2 : Below w.heap.size w w2 := Below.trans (by go_grown) (B2.mono (by omega))
            go_wp2_with fail
            refine (setup_all_is 60 57600 true _ _ _ [s.cap] _ (Ints_new _ _ (by simp) _ _ 1 rfl (by simp [h.cap]) (by decide)) H2.out).mono ?_
            rintro e w3 ⟨rfl, k3⟩
            have B3 : Below (w.heap.size + 1) (w.alloc (.cells #[.int .i64 s.places, .slice q.wa q.wl q.wc, .int .i64 s.pn, .int .i64 s.pd, .slice q.ea q.el q.ec, .slice q.ca q.cl q.cc, .slice q.ga q.gl q.gc, .int .i64 s.allow, .int .i64 s.unit, .int .i64 s.cap, .int .i64 s.paidBreak, .int .i64 s.autoAfter, .int .i64 s.autoBreak, .int .i64 s.dayReg, .int .i64 s.dayOver, .int .i64 s.weekReg, .int .i64 s.nightFrom, .int .i64 s.nightTo, .slice q.ra q.rl q.rc, .int .i64 s.diff, .int .i64 s.least, .int .i64 s.fault, .slice q.ta q.tl q.tc] 30)) w3 := B2.trans (Below.trans (by go_grown) (k3.mono (by first | omega | (simp <;> omega))))
            clear k3 hc2 hf2 z2
            obtain ⟨hc3, hf3⟩ := old_cells B3
            have z3 : w.heap.size + 1 ≤ w3.heap.size := by have := B3.size; simpa using this
            have Bw3 : Below w.heap.size w w3 := Below.trans (by go_grown) (B3.mono (by omega))
            go_wp2_with fail
            refine (setup_all_is 0 86400 true _ _ _ [s.paidBreak, s.autoAfter, s.autoBreak, s.nightFrom, s.nightTo, s.fault, s.dayOver] _ (Ints_new _ _ (by simp) _ _ 7 rfl (by simp [h.paidBreak, h.autoAfter, h.autoBreak, h.nightFrom, h.nightTo, h.fault, h.dayOver]) (by decide)) H3.out).mono ?_
            rintro e w4 ⟨rfl, k4⟩
            have B4 : Below (w.heap.size + 1) (w.alloc (.cells #[.int .i64 s.places, .slice q.wa q.wl q.wc, .int .i64 s.pn, .int .i64 s.pd, .slice q.ea q.el q.ec, .slice q.ca q.cl q.cc, .slice q.ga q.gl q.gc, .int .i64 s.allow, .int .i64 s.unit, .int .i64 s.cap, .int .i64 s.paidBreak, .int .i64 s.autoAfter, .int .i64 s.autoBreak, .int .i64 s.dayReg, .int .i64 s.dayOver, .int .i64 s.weekReg, .int .i64 s.nightFrom, .int .i64 s.nightTo, .slice q.ra q.rl q.rc, .int .i64 s.diff, .int .i64 s.least, .int .i64 s.fault, .slice q.ta q.tl q.tc] 30)) w4 := B3.trans (Below.trans (by go_grown) (k4.mono (by first | omega | (simp <;> omega))))
            clear k4 hc3 hf3 z3
            obtain ⟨hc4, hf4⟩ := old_cells B4
            have z4 : w.heap.size + 1 ≤ w4.heap.size := by have := B4.size; simpa using this
            have Bw4 : Below w.heap.size w w4 := Below.trans (by go_grown) (B4.mono (by omega))
            go_wp2_with fail
            refine (setup_all_is 0 s.dayOver false _ _ _ [s.dayReg] _ (Ints_new _ _ (by simp) _ _ 1 rfl (by simp [h.dayReg]) (by decide)) H4.out).mono ?_
            rintro e w5 ⟨rfl, k5⟩
            have B5 : Below (w.heap.size + 1) (w.alloc (.cells #[.int .i64 s.places, .slice q.wa q.wl q.wc, .int .i64 s.pn, .int .i64 s.pd, .slice q.ea q.el q.ec, .slice q.ca q.cl q.cc, .slice q.ga q.gl q.gc, .int .i64 s.allow, .int .i64 s.unit, .int .i64 s.cap, .int .i64 s.paidBreak, .int .i64 s.autoAfter, .int .i64 s.autoBreak, .int .i64 s.dayReg, .int .i64 s.dayOver, .int .i64 s.weekReg, .int .i64 s.nightFrom, .int .i64 s.nightTo, .slice q.ra q.rl q.rc, .int .i64 s.diff, .int .i64 s.least, .int .i64 s.fault, .slice q.ta q.tl q.tc] 30)) w5 := B4.trans (Below.trans (by go_grown) (k5.mono (by first | omega | (simp <;> omega))))
            clear k5 hc4 hf4 z4
            obtain ⟨hc5, hf5⟩ := old_cells B5
            have z5 : w.heap.size + 1 ≤ w5.heap.size := by have := B5.size; simpa using this
            have Bw5 : Below w.heap.size w w5 := Below.trans (by go_grown) (B5.mono (by omega))
            go_wp2_with fail
            go_ret
            exact ⟨rfl, Bw5⟩
        · replace c3 := Bool.eq_false_iff.2 c3
          have hv : timesP s = false := by unfold timesP; rw [c0, c1, c2, c3] <;> rfl
          rw [hv] at hr
          subst hr
          have H0 := Lib.hid c0
          have H1 := Lib.hid c1
          have H2 := Lib.hid c2
          have H3 := Lib.hid c3
          clear hv c0 c1 c2 c3
          go_enter Try.func43, Try.ntmps43
          go_wp2_with fail
          refine (setup_all_is 0 100 true _ _ _ [s.allow] _ (Ints_new _ _ (by simp) _ _ 1 rfl (by simp [h.allow]) (by decide)) H0.out).mono ?_
          rintro e w1 ⟨rfl, k1⟩
          have B1 : Below (w.heap.size + 1) (w.alloc (.cells #[.int .i64 s.places, .slice q.wa q.wl q.wc, .int .i64 s.pn, .int .i64 s.pd, .slice q.ea q.el q.ec, .slice q.ca q.cl q.cc, .slice q.ga q.gl q.gc, .int .i64 s.allow, .int .i64 s.unit, .int .i64 s.cap, .int .i64 s.paidBreak, .int .i64 s.autoAfter, .int .i64 s.autoBreak, .int .i64 s.dayReg, .int .i64 s.dayOver, .int .i64 s.weekReg, .int .i64 s.nightFrom, .int .i64 s.nightTo, .slice q.ra q.rl q.rc, .int .i64 s.diff, .int .i64 s.least, .int .i64 s.fault, .slice q.ta q.tl q.tc] 30)) w1 := (Below.trans (by go_grown) (k1.mono (by first | omega | (simp <;> omega))))
          clear k1
          obtain ⟨hc1, hf1⟩ := old_cells B1
          have z1 : w.heap.size + 1 ≤ w1.heap.size := by have := B1.size; simpa using this
          have Bw1 : Below w.heap.size w w1 := Below.trans (by go_grown) (B1.mono (by omega))
          go_wp2_with fail
          refine (setup_all_is 1 3600 true _ _ _ [s.unit] _ (Ints_new _ _ (by simp) _ _ 1 rfl (by simp [h.unit]) (by decide)) H1.out).mono ?_
          rintro e w2 ⟨rfl, k2⟩
          have B2 : Below (w.heap.size + 1) (w.alloc (.cells #[.int .i64 s.places, .slice q.wa q.wl q.wc, .int .i64 s.pn, .int .i64 s.pd, .slice q.ea q.el q.ec, .slice q.ca q.cl q.cc, .slice q.ga q.gl q.gc, .int .i64 s.allow, .int .i64 s.unit, .int .i64 s.cap, .int .i64 s.paidBreak, .int .i64 s.autoAfter, .int .i64 s.autoBreak, .int .i64 s.dayReg, .int .i64 s.dayOver, .int .i64 s.weekReg, .int .i64 s.nightFrom, .int .i64 s.nightTo, .slice q.ra q.rl q.rc, .int .i64 s.diff, .int .i64 s.least, .int .i64 s.fault, .slice q.ta q.tl q.tc] 30)) w2 := B1.trans (Below.trans (by go_grown) (k2.mono (by first | omega | (simp <;> omega))))
          clear k2 hc1 hf1 z1
          obtain ⟨hc2, hf2⟩ := old_cells B2
          have z2 : w.heap.size + 1 ≤ w2.heap.size := by have := B2.size; simpa using this
          have Bw2 : Below w.heap.size w w2 := Below.trans (by go_grown) (B2.mono (by omega))
          go_wp2_with fail
          refine (setup_all_is 60 57600 true _ _ _ [s.cap] _ (Ints_new _ _ (by simp) _ _ 1 rfl (by simp [h.cap]) (by decide)) H2.out).mono ?_
          rintro e w3 ⟨rfl, k3⟩
          have B3 : Below (w.heap.size + 1) (w.alloc (.cells #[.int .i64 s.places, .slice q.wa q.wl q.wc, .int .i64 s.pn, .int .i64 s.pd, .slice q.ea q.el q.ec, .slice q.ca q.cl q.cc, .slice q.ga q.gl q.gc, .int .i64 s.allow, .int .i64 s.unit, .int .i64 s.cap, .int .i64 s.paidBreak, .int .i64 s.autoAfter, .int .i64 s.autoBreak, .int .i64 s.dayReg, .int .i64 s.dayOver, .int .i64 s.weekReg, .int .i64 s.nightFrom, .int .i64 s.nightTo, .slice q.ra q.rl q.rc, .int .i64 s.diff, .int .i64 s.least, .int .i64 s.fault, .slice q.ta q.tl q.tc] 30)) w3 := B2.trans (Below.trans (by go_grown) (k3.mono (by first | omega | (simp <;> omega))))
          clear k3 hc2 hf2 z2
          obtain ⟨hc3, hf3⟩ := old_cells B3
          have z3 : w.heap.size + 1 ≤ w3.heap.size := by have := B3.size; simpa using this
          have Bw3 : Below w.heap.size w w3 := Below.trans (by go_grown) (B3.mono (by omega))
          go_wp2_with fail
          refine (setup_all_is 0 86400 false _ _ _ [s.paidBreak, s.autoAfter, s.autoBreak, s.nightFrom, s.nightTo, s.fault, s.dayOver] _ (Ints_new _ _ (by simp) _ _ 7 rfl (by simp [h.paidBreak, h.autoAfter, h.autoBreak, h.nightFrom, h.nightTo, h.fault, h.dayOver]) (by decide)) H3.out).mono ?_
          rintro e w4 ⟨rfl, k4⟩
          have B4 : Below (w.heap.size + 1) (w.alloc (.cells #[.int .i64 s.places, .slice q.wa q.wl q.wc, .int .i64 s.pn, .int .i64 s.pd, .slice q.ea q.el q.ec, .slice q.ca q.cl q.cc, .slice q.ga q.gl q.gc, .int .i64 s.allow, .int .i64 s.unit, .int .i64 s.cap, .int .i64 s.paidBreak, .int .i64 s.autoAfter, .int .i64 s.autoBreak, .int .i64 s.dayReg, .int .i64 s.dayOver, .int .i64 s.weekReg, .int .i64 s.nightFrom, .int .i64 s.nightTo, .slice q.ra q.rl q.rc, .int .i64 s.diff, .int .i64 s.least, .int .i64 s.fault, .slice q.ta q.tl q.tc] 30)) w4 := B3.trans (Below.trans (by go_grown) (k4.mono (by first | omega | (simp <;> omega))))
          clear k4 hc3 hf3 z3
          obtain ⟨hc4, hf4⟩ := old_cells B4
          have z4 : w.heap.size + 1 ≤ w4.heap.size := by have := B4.size; simpa using this
          have Bw4 : Below w.heap.size w w4 := Below.trans (by go_grown) (B4.mono (by omega))
          go_wp2_with fail
          go_ret
          exact ⟨rfl, Bw4⟩
      · replace c2 := Bool.eq_false_iff.2 c2
        have hv : timesP s = false := by unfold timesP; rw [c0, c1, c2] <;> rfl
        rw [hv] at hr
        subst hr
        have H0 := Lib.hid c0
        have H1 := Lib.hid c1
        have H2 := Lib.hid c2
        clear hv c0 c1 c2
        go_enter Try.func43, Try.ntmps43
        go_wp2_with fail
        refine (setup_all_is 0 100 true _ _ _ [s.allow] _ (Ints_new _ _ (by simp) _ _ 1 rfl (by simp [h.allow]) (by decide)) H0.out).mono ?_
        rintro e w1 ⟨rfl, k1⟩
        have B1 : Below (w.heap.size + 1) (w.alloc (.cells #[.int .i64 s.places, .slice q.wa q.wl q.wc, .int .i64 s.pn, .int .i64 s.pd, .slice q.ea q.el q.ec, .slice q.ca q.cl q.cc, .slice q.ga q.gl q.gc, .int .i64 s.allow, .int .i64 s.unit, .int .i64 s.cap, .int .i64 s.paidBreak, .int .i64 s.autoAfter, .int .i64 s.autoBreak, .int .i64 s.dayReg, .int .i64 s.dayOver, .int .i64 s.weekReg, .int .i64 s.nightFrom, .int .i64 s.nightTo, .slice q.ra q.rl q.rc, .int .i64 s.diff, .int .i64 s.least, .int .i64 s.fault, .slice q.ta q.tl q.tc] 30)) w1 := (Below.trans (by go_grown) (k1.mono (by first | omega | (simp <;> omega))))
        clear k1
        obtain ⟨hc1, hf1⟩ := old_cells B1
        have z1 : w.heap.size + 1 ≤ w1.heap.size := by have := B1.size; simpa using this
        have Bw1 : Below w.heap.size w w1 := Below.trans (by go_grown) (B1.mono (by omega))
        go_wp2_with fail
        refine (setup_all_is 1 3600 true _ _ _ [s.unit] _ (Ints_new _ _ (by simp) _ _ 1 rfl (by simp [h.unit]) (by decide)) H1.out).mono ?_
        rintro e w2 ⟨rfl, k2⟩
        have B2 : Below (w.heap.size + 1) (w.alloc (.cells #[.int .i64 s.places, .slice q.wa q.wl q.wc, .int .i64 s.pn, .int .i64 s.pd, .slice q.ea q.el q.ec, .slice q.ca q.cl q.cc, .slice q.ga q.gl q.gc, .int .i64 s.allow, .int .i64 s.unit, .int .i64 s.cap, .int .i64 s.paidBreak, .int .i64 s.autoAfter, .int .i64 s.autoBreak, .int .i64 s.dayReg, .int .i64 s.dayOver, .int .i64 s.weekReg, .int .i64 s.nightFrom, .int .i64 s.nightTo, .slice q.ra q.rl q.rc, .int .i64 s.diff, .int .i64 s.least, .int .i64 s.fault, .slice q.ta q.tl q.tc] 30)) w2 := B1.trans (Below.trans (by go_grown) (k2.mono (by first | omega | (simp <;> omega))))
        clear k2 hc1 hf1 z1
        obtain ⟨hc2, hf2⟩ := old_cells B2
        have z2 : w.heap.size + 1 ≤ w2.heap.size := by have := B2.size; simpa using this
        have Bw2 : Below w.heap.size w w2 := Below.trans (by go_grown) (B2.mono (by omega))
        go_wp2_with fail
        refine (setup_all_is 60 57600 false _ _ _ [s.cap] _ (Ints_new _ _ (by simp) _ _ 1 rfl (by simp [h.cap]) (by decide)) H2.out).mono ?_
        rintro e w3 ⟨rfl, k3⟩
        have B3 : Below (w.heap.size + 1) (w.alloc (.cells #[.int .i64 s.places, .slice q.wa q.wl q.wc, .int .i64 s.pn, .int .i64 s.pd, .slice q.ea q.el q.ec, .slice q.ca q.cl q.cc, .slice q.ga q.gl q.gc, .int .i64 s.allow, .int .i64 s.unit, .int .i64 s.cap, .int .i64 s.paidBreak, .int .i64 s.autoAfter, .int .i64 s.autoBreak, .int .i64 s.dayReg, .int .i64 s.dayOver, .int .i64 s.weekReg, .int .i64 s.nightFrom, .int .i64 s.nightTo, .slice q.ra q.rl q.rc, .int .i64 s.diff, .int .i64 s.least, .int .i64 s.fault, .slice q.ta q.tl q.tc] 30)) w3 := B2.trans (Below.trans (by go_grown) (k3.mono (by first | omega | (simp <;> omega))))
        clear k3 hc2 hf2 z2
        obtain ⟨hc3, hf3⟩ := old_cells B3
        have z3 : w.heap.size + 1 ≤ w3.heap.size := by have := B3.size; simpa using this
        have Bw3 : Below w.heap.size w w3 := Below.trans (by go_grown) (B3.mono (by omega))
        go_wp2_with fail
        go_ret
        exact ⟨rfl, Bw3⟩
    · replace c1 := Bool.eq_false_iff.2 c1
      have hv : timesP s = false := by unfold timesP; rw [c0, c1] <;> rfl
      rw [hv] at hr
      subst hr
      have H0 := Lib.hid c0
      have H1 := Lib.hid c1
      clear hv c0 c1
      go_enter Try.func43, Try.ntmps43
      go_wp2_with fail
      refine (setup_all_is 0 100 true _ _ _ [s.allow] _ (Ints_new _ _ (by simp) _ _ 1 rfl (by simp [h.allow]) (by decide)) H0.out).mono ?_
      rintro e w1 ⟨rfl, k1⟩
      have B1 : Below (w.heap.size + 1) (w.alloc (.cells #[.int .i64 s.places, .slice q.wa q.wl q.wc, .int .i64 s.pn, .int .i64 s.pd, .slice q.ea q.el q.ec, .slice q.ca q.cl q.cc, .slice q.ga q.gl q.gc, .int .i64 s.allow, .int .i64 s.unit, .int .i64 s.cap, .int .i64 s.paidBreak, .int .i64 s.autoAfter, .int .i64 s.autoBreak, .int .i64 s.dayReg, .int .i64 s.dayOver, .int .i64 s.weekReg, .int .i64 s.nightFrom, .int .i64 s.nightTo, .slice q.ra q.rl q.rc, .int .i64 s.diff, .int .i64 s.least, .int .i64 s.fault, .slice q.ta q.tl q.tc] 30)) w1 := (Below.trans (by go_grown) (k1.mono (by first | omega | (simp <;> omega))))
      clear k1
      obtain ⟨hc1, hf1⟩ := old_cells B1
      have z1 : w.heap.size + 1 ≤ w1.heap.size := by have := B1.size; simpa using this
      have Bw1 : Below w.heap.size w w1 := Below.trans (by go_grown) (B1.mono (by omega))
      go_wp2_with fail
      refine (setup_all_is 1 3600 false _ _ _ [s.unit] _ (Ints_new _ _ (by simp) _ _ 1 rfl (by simp [h.unit]) (by decide)) H1.out).mono ?_
      rintro e w2 ⟨rfl, k2⟩
      have B2 : Below (w.heap.size + 1) (w.alloc (.cells #[.int .i64 s.places, .slice q.wa q.wl q.wc, .int .i64 s.pn, .int .i64 s.pd, .slice q.ea q.el q.ec, .slice q.ca q.cl q.cc, .slice q.ga q.gl q.gc, .int .i64 s.allow, .int .i64 s.unit, .int .i64 s.cap, .int .i64 s.paidBreak, .int .i64 s.autoAfter, .int .i64 s.autoBreak, .int .i64 s.dayReg, .int .i64 s.dayOver, .int .i64 s.weekReg, .int .i64 s.nightFrom, .int .i64 s.nightTo, .slice q.ra q.rl q.rc, .int .i64 s.diff, .int .i64 s.least, .int .i64 s.fault, .slice q.ta q.tl q.tc] 30)) w2 := B1.trans (Below.trans (by go_grown) (k2.mono (by first | omega | (simp <;> omega))))
      clear k2 hc1 hf1 z1
      obtain ⟨hc2, hf2⟩ := old_cells B2
      have z2 : w.heap.size + 1 ≤ w2.heap.size := by have := B2.size; simpa using this
      have Bw2 : Below w.heap.size w w2 := Below.trans (by go_grown) (B2.mono (by omega))
      go_wp2_with fail
      go_ret
      exact ⟨rfl, Bw2⟩
  · replace c0 := Bool.eq_false_iff.2 c0
    have hv : timesP s = false := by unfold timesP; rw [c0] <;> rfl
    rw [hv] at hr
    subst hr
    have H0 := Lib.hid c0
    clear hv c0
    go_enter Try.func43, Try.ntmps43
    go_wp2_with fail
    refine (setup_all_is 0 100 false _ _ _ [s.allow] _ (Ints_new _ _ (by simp) _ _ 1 rfl (by simp [h.allow]) (by decide)) H0.out).mono ?_
    rintro e w1 ⟨rfl, k1⟩
    have B1 : Below (w.heap.size + 1) (w.alloc (.cells #[.int .i64 s.places, .slice q.wa q.wl q.wc, .int .i64 s.pn, .int .i64 s.pd, .slice q.ea q.el q.ec, .slice q.ca q.cl q.cc, .slice q.ga q.gl q.gc, .int .i64 s.allow, .int .i64 s.unit, .int .i64 s.cap, .int .i64 s.paidBreak, .int .i64 s.autoAfter, .int .i64 s.autoBreak, .int .i64 s.dayReg, .int .i64 s.dayOver, .int .i64 s.weekReg, .int .i64 s.nightFrom, .int .i64 s.nightTo, .slice q.ra q.rl q.rc, .int .i64 s.diff, .int .i64 s.least, .int .i64 s.fault, .slice q.ta q.tl q.tc] 30)) w1 := (Below.trans (by go_grown) (k1.mono (by first | omega | (simp <;> omega))))
    clear k1
    obtain ⟨hc1, hf1⟩ := old_cells B1
    have z1 : w.heap.size + 1 ≤ w1.heap.size := by have := B1.size; simpa using this
    have Bw1 : Below w.heap.size w w1 := Below.trans (by go_grown) (B1.mono (by omega))
    go_wp2_with fail
    go_ret
    exact ⟨rfl, Bw1⟩
end Go.Proofs.Ytnjckaifgmliaaa
