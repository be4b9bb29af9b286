/- THE WALKS of layer 7's reference (lumperref07), fourth part: Check, Few. -/
import Derived.Test.YtnjckaifgmliaaaRef07C
set_option linter.unusedSimpArgs false
set_option linter.unusedVariables false
namespace Go.Proofs.Ytnjckaifgmliaaa
open Go.RowKit Lu

theorem setupP_eq (s : Setup) : setupP s = (ways7P s && shareP s.pn s.pd && (elementsP s.elements && decide (s.elements.length ≤ 8)) && (sharesP s.classes && decide (s.classes.length ≤ 8)) && (sharesP s.gears && decide (s.gears.length ≤ 8)) && timesP s && moneyP s) := by
  unfold setupP placesP tablesP ways7P
  have e1 : sharesP [(s.pn, s.pd)] = shareP s.pn s.pd := by unfold sharesP; simp
  have e2 : decide (max s.elements.length (max s.classes.length s.gears.length) ≤ 8) = (decide (s.elements.length ≤ 8) && decide (s.classes.length ≤ 8) && decide (s.gears.length ≤ 8)) := by
    rw [Bool.eq_iff_iff]; simp; omega
  rw [e1, e2]
  cases waysP s.places s.ways <;> cases decide (s.ways.length ≤ 64) <;> cases allP 1 16 [s.places] <;> try simp
  cases shareP s.pn s.pd <;> cases elementsP s.elements <;> cases sharesP s.classes <;> cases sharesP s.gears <;> simp


set_option maxHeartbeats 4000000 in
theorem ref7_Check (s : Setup) (q : Slices) (r : Bool) (w : World) (h : SetupIs w s q) (hr : setupP s = r) :
    Calls Try.prog 21 #[.agg #[.int .i64 s.places, .slice q.wa q.wl q.wc, .int .i64 s.pn, .int .i64 s.pd, .slice q.ea q.el q.ec, .slice q.ca q.cl q.cc, .slice q.ga q.gl q.gc, .int .i64 s.allow, .int .i64 s.unit, .int .i64 s.cap, .int .i64 s.paidBreak, .int .i64 s.autoAfter, .int .i64 s.autoBreak, .int .i64 s.dayReg, .int .i64 s.dayOver, .int .i64 s.weekReg, .int .i64 s.nightFrom, .int .i64 s.nightTo, .slice q.ra q.rl q.rc, .int .i64 s.diff, .int .i64 s.least, .int .i64 s.fault, .slice q.ta q.tl q.tc]] w fun e w' => e = .returned (.bool r) ∧ Below w.heap.size w w' := by
  rw [setupP_eq] at hr
  obtain ⟨v0, h0⟩ : ∃ v, ways7P s = v := ⟨_, rfl⟩
  obtain ⟨v1, h1⟩ : ∃ v, shareP s.pn s.pd = v := ⟨_, rfl⟩
  obtain ⟨v2, h2⟩ : ∃ v, (elementsP s.elements && decide (s.elements.length ≤ 8)) = v := ⟨_, rfl⟩
  obtain ⟨v3, h3⟩ : ∃ v, (sharesP s.classes && decide (s.classes.length ≤ 8)) = v := ⟨_, rfl⟩
  obtain ⟨v4, h4⟩ : ∃ v, (sharesP s.gears && decide (s.gears.length ≤ 8)) = v := ⟨_, rfl⟩
  obtain ⟨v5, h5⟩ : ∃ v, timesP s = v := ⟨_, rfl⟩
  obtain ⟨v6, h6⟩ : ∃ v, moneyP s = v := ⟨_, rfl⟩
  rw [h0, h1, h2, h3, h4, h5, h6] at hr
  subst hr
  have H0 := Lib.hid h0
  have H1 := Lib.hid h1
  have H2 := Lib.hid h2
  have H3 := Lib.hid h3
  have H4 := Lib.hid h4
  have H5 := Lib.hid h5
  have H6 := Lib.hid h6
  clear h0 h1 h2 h3 h4 h5 h6
  have hb0 : (w.alloc (.cells #[.int .i64 s.places, .slice q.wa q.wl q.wc, .int .i64 s.pn, .int .i64 s.pd, .slice q.ea q.el q.ec, .slice q.ca q.cl q.cc, .slice q.ga q.gl q.gc, .int .i64 s.allow, .int .i64 s.unit, .int .i64 s.cap, .int .i64 s.paidBreak, .int .i64 s.autoAfter, .int .i64 s.autoBreak, .int .i64 s.dayReg, .int .i64 s.dayOver, .int .i64 s.weekReg, .int .i64 s.nightFrom, .int .i64 s.nightTo, .slice q.ra q.rl q.rc, .int .i64 s.diff, .int .i64 s.least, .int .i64 s.fault, .slice q.ta q.tl q.tc] 30)).heap[w.heap.size]? = some (.cells #[.int .i64 s.places, .slice q.wa q.wl q.wc, .int .i64 s.pn, .int .i64 s.pd, .slice q.ea q.el q.ec, .slice q.ca q.cl q.cc, .slice q.ga q.gl q.gc, .int .i64 s.allow, .int .i64 s.unit, .int .i64 s.cap, .int .i64 s.paidBreak, .int .i64 s.autoAfter, .int .i64 s.autoBreak, .int .i64 s.dayReg, .int .i64 s.dayOver, .int .i64 s.weekReg, .int .i64 s.nightFrom, .int .i64 s.nightTo, .slice q.ra q.rl q.rc, .int .i64 s.diff, .int .i64 s.least, .int .i64 s.fault, .slice q.ta q.tl q.tc] 30) := box_new _ _ rfl _ _
  have Bw0 : Below w.heap.size w (w.alloc (.cells #[.int .i64 s.places, .slice q.wa q.wl q.wc, .int .i64 s.pn, .int .i64 s.pd, .slice q.ea q.el q.ec, .slice q.ca q.cl q.cc, .slice q.ga q.gl q.gc, .int .i64 s.allow, .int .i64 s.unit, .int .i64 s.cap, .int .i64 s.paidBreak, .int .i64 s.autoAfter, .int .i64 s.autoBreak, .int .i64 s.dayReg, .int .i64 s.dayOver, .int .i64 s.weekReg, .int .i64 s.nightFrom, .int .i64 s.nightTo, .slice q.ra q.rl q.rc, .int .i64 s.diff, .int .i64 s.least, .int .i64 s.fault, .slice q.ta q.tl q.tc] 30)) := by go_grown
  have hz0 : w.heap.size < (w.alloc (.cells #[.int .i64 s.places, .slice q.wa q.wl q.wc, .int .i64 s.pn, .int .i64 s.pd, .slice q.ea q.el q.ec, .slice q.ca q.cl q.cc, .slice q.ga q.gl q.gc, .int .i64 s.allow, .int .i64 s.unit, .int .i64 s.cap, .int .i64 s.paidBreak, .int .i64 s.autoAfter, .int .i64 s.autoBreak, .int .i64 s.dayReg, .int .i64 s.dayOver, .int .i64 s.weekReg, .int .i64 s.nightFrom, .int .i64 s.nightTo, .slice q.ra q.rl q.rc, .int .i64 s.diff, .int .i64 s.least, .int .i64 s.fault, .slice q.ta q.tl q.tc] 30)).heap.size := by simp
  have c2 : (w.alloc (.cells #[.int .i64 s.places, .slice q.wa q.wl q.wc, .int .i64 s.pn, .int .i64 s.pd, .slice q.ea q.el q.ec, .slice q.ca q.cl q.cc, .slice q.ga q.gl q.gc, .int .i64 s.allow, .int .i64 s.unit, .int .i64 s.cap, .int .i64 s.paidBreak, .int .i64 s.autoAfter, .int .i64 s.autoBreak, .int .i64 s.dayReg, .int .i64 s.dayOver, .int .i64 s.weekReg, .int .i64 s.nightFrom, .int .i64 s.nightTo, .slice q.ra q.rl q.rc, .int .i64 s.diff, .int .i64 s.least, .int .i64 s.fault, .slice q.ta q.tl q.tc] 30)).cell? ⟨w.heap.size, 2, none⟩ = some (.int .i64 s.pn) := by simp [go_sem]
  have c3 : (w.alloc (.cells #[.int .i64 s.places, .slice q.wa q.wl q.wc, .int .i64 s.pn, .int .i64 s.pd, .slice q.ea q.el q.ec, .slice q.ca q.cl q.cc, .slice q.ga q.gl q.gc, .int .i64 s.allow, .int .i64 s.unit, .int .i64 s.cap, .int .i64 s.paidBreak, .int .i64 s.autoAfter, .int .i64 s.autoBreak, .int .i64 s.dayReg, .int .i64 s.dayOver, .int .i64 s.weekReg, .int .i64 s.nightFrom, .int .i64 s.nightTo, .slice q.ra q.rl q.rc, .int .i64 s.diff, .int .i64 s.least, .int .i64 s.fault, .slice q.ta q.tl q.tc] 30)).cell? ⟨w.heap.size, 3, none⟩ = some (.int .i64 s.pd) := by simp [go_sem]
  have c4 : (w.alloc (.cells #[.int .i64 s.places, .slice q.wa q.wl q.wc, .int .i64 s.pn, .int .i64 s.pd, .slice q.ea q.el q.ec, .slice q.ca q.cl q.cc, .slice q.ga q.gl q.gc, .int .i64 s.allow, .int .i64 s.unit, .int .i64 s.cap, .int .i64 s.paidBreak, .int .i64 s.autoAfter, .int .i64 s.autoBreak, .int .i64 s.dayReg, .int .i64 s.dayOver, .int .i64 s.weekReg, .int .i64 s.nightFrom, .int .i64 s.nightTo, .slice q.ra q.rl q.rc, .int .i64 s.diff, .int .i64 s.least, .int .i64 s.fault, .slice q.ta q.tl q.tc] 30)).cell? ⟨w.heap.size, 4, none⟩ = some (.slice q.ea q.el q.ec) := by simp [go_sem]
  have c5 : (w.alloc (.cells #[.int .i64 s.places, .slice q.wa q.wl q.wc, .int .i64 s.pn, .int .i64 s.pd, .slice q.ea q.el q.ec, .slice q.ca q.cl q.cc, .slice q.ga q.gl q.gc, .int .i64 s.allow, .int .i64 s.unit, .int .i64 s.cap, .int .i64 s.paidBreak, .int .i64 s.autoAfter, .int .i64 s.autoBreak, .int .i64 s.dayReg, .int .i64 s.dayOver, .int .i64 s.weekReg, .int .i64 s.nightFrom, .int .i64 s.nightTo, .slice q.ra q.rl q.rc, .int .i64 s.diff, .int .i64 s.least, .int .i64 s.fault, .slice q.ta q.tl q.tc] 30)).cell? ⟨w.heap.size, 5, none⟩ = some (.slice q.ca q.cl q.cc) := by simp [go_sem]
  have c6 : (w.alloc (.cells #[.int .i64 s.places, .slice q.wa q.wl q.wc, .int .i64 s.pn, .int .i64 s.pd, .slice q.ea q.el q.ec, .slice q.ca q.cl q.cc, .slice q.ga q.gl q.gc, .int .i64 s.allow, .int .i64 s.unit, .int .i64 s.cap, .int .i64 s.paidBreak, .int .i64 s.autoAfter, .int .i64 s.autoBreak, .int .i64 s.dayReg, .int .i64 s.dayOver, .int .i64 s.weekReg, .int .i64 s.nightFrom, .int .i64 s.nightTo, .slice q.ra q.rl q.rc, .int .i64 s.diff, .int .i64 s.least, .int .i64 s.fault, .slice q.ta q.tl q.tc] 30)).cell? ⟨w.heap.size, 6, none⟩ = some (.slice q.ga q.gl q.gc) := by simp [go_sem]
  go_enter Try.func21, Try.ntmps21
  go_wp2_with (refine wpList_load_box 30 (.tmp 1) rfl rfl w.heap.size rfl 30 #[.int .i64 s.places, .slice q.wa q.wl q.wc, .int .i64 s.pn, .int .i64 s.pd, .slice q.ea q.el q.ec, .slice q.ca q.cl q.cc, .slice q.ga q.gl q.gc, .int .i64 s.allow, .int .i64 s.unit, .int .i64 s.cap, .int .i64 s.paidBreak, .int .i64 s.autoAfter, .int .i64 s.autoBreak, .int .i64 s.dayReg, .int .i64 s.dayOver, .int .i64 s.weekReg, .int .i64 s.nightFrom, .int .i64 s.nightTo, .slice q.ra q.rl q.rc, .int .i64 s.diff, .int .i64 s.least, .int .i64 s.fault, .slice q.ta q.tl q.tc] hb0 setup_big ?_)
  refine (ref7_ways s q v0 _ (h.below Bw0) H0.out).mono ?_
  rintro e w1 ⟨rfl, k1⟩
  replace hb0 := box_keep k1 hb0 hz0
  replace c2 := keepD k1 c2
  replace c3 := keepD k1 c3
  replace c4 := keepD k1 c4
  replace c5 := keepD k1 c5
  replace c6 := keepD k1 c6
  replace Bw0 := Bw0.trans (k1.mono (by omega))
  replace hz0 := Nat.lt_of_lt_of_le hz0 k1.size
  clear k1
  go_wp2_with fail
  refine (ref7_share s.pn s.pd v1 _ h.pn h.pd H1.out).mono ?_
  rintro e w2 ⟨rfl, k2⟩
  replace hb0 := box_keep k2 hb0 hz0
  replace c2 := keepD k2 c2
  replace c3 := keepD k2 c3
  replace c4 := keepD k2 c4
  replace c5 := keepD k2 c5
  replace c6 := keepD k2 c6
  replace Bw0 := Bw0.trans (k2.mono (by omega))
  replace hz0 := Nat.lt_of_lt_of_le hz0 k2.size
  clear k2
  go_wp2_with fail
  refine (ref7_elements q.ea q.el q.ec s.elements v2 _ (h.elements.below Bw0) H2.out).mono ?_
  rintro e w3 ⟨rfl, k3⟩
  replace hb0 := box_keep k3 hb0 hz0
  replace c2 := keepD k3 c2
  replace c3 := keepD k3 c3
  replace c4 := keepD k3 c4
  replace c5 := keepD k3 c5
  replace c6 := keepD k3 c6
  replace Bw0 := Bw0.trans (k3.mono (by omega))
  replace hz0 := Nat.lt_of_lt_of_le hz0 k3.size
  clear k3
  go_wp2_with fail
  refine (ref7_shares q.ca q.cl q.cc s.classes v3 _ (h.classes.below Bw0) H3.out).mono ?_
  rintro e w4 ⟨rfl, k4⟩
  replace hb0 := box_keep k4 hb0 hz0
  replace c2 := keepD k4 c2
  replace c3 := keepD k4 c3
  replace c4 := keepD k4 c4
  replace c5 := keepD k4 c5
  replace c6 := keepD k4 c6
  replace Bw0 := Bw0.trans (k4.mono (by omega))
  replace hz0 := Nat.lt_of_lt_of_le hz0 k4.size
  clear k4
  go_wp2_with fail
  refine (ref7_shares q.ga q.gl q.gc s.gears v4 _ (h.gears.below Bw0) H4.out).mono ?_
  rintro e w5 ⟨rfl, k5⟩
  replace hb0 := box_keep k5 hb0 hz0
  replace c2 := keepD k5 c2
  replace c3 := keepD k5 c3
  replace c4 := keepD k5 c4
  replace c5 := keepD k5 c5
  replace c6 := keepD k5 c6
  replace Bw0 := Bw0.trans (k5.mono (by omega))
  replace hz0 := Nat.lt_of_lt_of_le hz0 k5.size
  clear k5
  go_wp2_with (refine wpList_load_box 30 (.tmp 1) rfl rfl w.heap.size rfl 30 #[.int .i64 s.places, .slice q.wa q.wl q.wc, .int .i64 s.pn, .int .i64 s.pd, .slice q.ea q.el q.ec, .slice q.ca q.cl q.cc, .slice q.ga q.gl q.gc, .int .i64 s.allow, .int .i64 s.unit, .int .i64 s.cap, .int .i64 s.paidBreak, .int .i64 s.autoAfter, .int .i64 s.autoBreak, .int .i64 s.dayReg, .int .i64 s.dayOver, .int .i64 s.weekReg, .int .i64 s.nightFrom, .int .i64 s.nightTo, .slice q.ra q.rl q.rc, .int .i64 s.diff, .int .i64 s.least, .int .i64 s.fault, .slice q.ta q.tl q.tc] hb0 setup_big ?_)
  refine (ref7_times s q v5 _ H5.out).mono ?_
  rintro e w6 ⟨rfl, k6⟩
  replace hb0 := box_keep k6 hb0 hz0
  replace c2 := keepD k6 c2
  replace c3 := keepD k6 c3
  replace c4 := keepD k6 c4
  replace c5 := keepD k6 c5
  replace c6 := keepD k6 c6
  replace Bw0 := Bw0.trans (k6.mono (by omega))
  replace hz0 := Nat.lt_of_lt_of_le hz0 k6.size
  clear k6
  go_wp2_with (refine wpList_load_box 30 (.tmp 1) rfl rfl w.heap.size rfl 30 #[.int .i64 s.places, .slice q.wa q.wl q.wc, .int .i64 s.pn, .int .i64 s.pd, .slice q.ea q.el q.ec, .slice q.ca q.cl q.cc, .slice q.ga q.gl q.gc, .int .i64 s.allow, .int .i64 s.unit, .int .i64 s.cap, .int .i64 s.paidBreak, .int .i64 s.autoAfter, .int .i64 s.autoBreak, .int .i64 s.dayReg, .int .i64 s.dayOver, .int .i64 s.weekReg, .int .i64 s.nightFrom, .int .i64 s.nightTo, .slice q.ra q.rl q.rc, .int .i64 s.diff, .int .i64 s.least, .int .i64 s.fault, .slice q.ta q.tl q.tc] hb0 setup_big ?_)
  refine (ref7_money s q v6 _ (h.below Bw0) H6.out).mono ?_
  rintro e w7 ⟨rfl, k7⟩
  replace hb0 := box_keep k7 hb0 hz0
  replace c2 := keepD k7 c2
  replace c3 := keepD k7 c3
  replace c4 := keepD k7 c4
  replace c5 := keepD k7 c5
  replace c6 := keepD k7 c6
  replace Bw0 := Bw0.trans (k7.mono (by omega))
  replace hz0 := Nat.lt_of_lt_of_le hz0 k7.size
  clear k7
  go_wp2_with fail
  all_goals
    go_ret
    exact ⟨ret_bool (by first | (simp [*]; done) | (simp_all; done)), Bw0⟩


def mx6 (a b c d e f : Int) : Int := max a (max b (max c (max d (max e f))))
@[go_sem] theorem run_max_int6 {P : Program} (w : World) (ts : Array TypeId) (t : TypeId) (a b c d e f : Int) : (Builtin.max_ ts t #[.int .i64 a, .int .i64 b, .int .i64 c, .int .i64 d, .int .i64 e, .int .i64 f]).run P w = .ok (.int .i64 (mx6 a b c d e f)) w := by
  have h : ∀ x y : Int, (if x < y then y else x) = max x y := by intro x y; split <;> omega
  simp [Builtin.max_, Builtin.max2, h, mx6]
def fewP (s : Setup) : Bool := decide (s.ways.length ≤ 100) && decide (s.elements.length ≤ 100) && decide (s.classes.length ≤ 100) && decide (s.gears.length ≤ 100) && decide (s.rates.length ≤ 100) && decide (s.tiers.length ≤ 100)
set_option maxHeartbeats 4000000 in
theorem ref7_Few (s : Setup) (q : Slices) (r : Bool) (w : World) (h : SetupIs w s q) (hr : fewP s = r) :
    Calls Try.prog 14 #[.agg #[.int .i64 s.places, .slice q.wa q.wl q.wc, .int .i64 s.pn, .int .i64 s.pd, .slice q.ea q.el q.ec, .slice q.ca q.cl q.cc, .slice q.ga q.gl q.gc, .int .i64 s.allow, .int .i64 s.unit, .int .i64 s.cap, .int .i64 s.paidBreak, .int .i64 s.autoAfter, .int .i64 s.autoBreak, .int .i64 s.dayReg, .int .i64 s.dayOver, .int .i64 s.weekReg, .int .i64 s.nightFrom, .int .i64 s.nightTo, .slice q.ra q.rl q.rc, .int .i64 s.diff, .int .i64 s.least, .int .i64 s.fault, .slice q.ta q.tl q.tc]] w fun e w' => e = .returned (.bool r) ∧ Below w.heap.size w w' := by
  have l1 := h.ways.1
  have l2 := h.elements.1
  have l3 := h.classes.1
  have l4 := h.gears.1
  have l5 := h.rates.1
  have l6 := h.tiers.1
  have hv : fewP s = decide (mx6 q.wl q.el q.cl q.gl q.rl q.tl ≤ 100) := by
    unfold fewP mx6
    rw [l1, l2, l3, l4, l5, l6, Bool.eq_iff_iff]
    simp
    omega
  rw [hr] at hv
  clear l1 l2 l3 l4 l5 l6 hr
  have HV := Lib.hid hv
  clear hv
  go_enter Try.func14, Try.ntmps14
  go_wp2_with fail
  go_ret
  exact ⟨ret_bool HV.out.symm, by go_grown⟩

end Go.Proofs.Ytnjckaifgmliaaa
