/- SetupCuts: THE STATEMENT: for every input the law returns true, and each argument reads behind the call as it read before. No condition. -/
import Derived.Test.YtnjckaifgmliaaaRef07C
import Derived.Test.YtnjckaifgmliaaaSetupAwake
import Derived.Test.YtnjckaifgmliaaaNumUp
import Derived.ProofKit
import Derived.OpenShut
import Derived.ChangeOld
import Derived.Test.YtnjckaifgmliaaaRatio4
import Derived.Lib.SmallJoins
import Derived.Deep.Slices
import Derived.Deep.Fields
import Derived.Test.YtnjckaifgmliaaaSetupCheck
set_option linter.unusedSimpArgs false
set_option linter.unusedVariables false
-- (MERGED of several texts)

/- THE WALKS of layer 7's reference (lumperref07), fourth part: Check, Few. -/

namespace Go.Proofs.Ytnjckaifgmliaaa
open Go.RowKit Lu

theorem setupP_eq (s : Setup) : setupP s = (ways7P s && shareP s.pn s.pd && (elementsP s.elements && decide (s.elements.length ≤ 8)) && (sharesP s.classes && decide (s.classes.length ≤ 8)) && (sharesP s.gears && decide (s.gears.length ≤ 8)) && timesP s && moneyP s) := by
  unfold setupP placesP tablesP ways7P
  have e1 : sharesP [(s.pn, s.pd)] = shareP s.pn s.pd := by unfold sharesP; simp
  have e2 : decide (max s.elements.length (max s.classes.length s.gears.length) ≤ 8) = (decide (s.elements.length ≤ 8) && decide (s.classes.length ≤ 8) && decide (s.gears.length ≤ 8)) := by
    rw [Bool.eq_iff_iff]; simp; omega
  rw [e1, e2]
  cases waysP s.places s.ways <;> cases decide (s.ways.length ≤ 64) <;> cases allP 1 16 [s.places] <;> try simp
  cases shareP s.pn s.pd <;> cases elementsP s.elements <;> cases sharesP s.classes <;> cases sharesP s.gears <;> simp


set_option maxHeartbeats 4000000 in
theorem ref7_Check (s : Setup) (q : Slices) (r : Bool) (w : World) (h : SetupIs w s q) (hr : setupP s = r) :
    Calls Try.prog 21 #[.agg #[.int .i64 s.places, .slice q.wa q.wl q.wc, .int .i64 s.pn, .int .i64 s.pd, .slice q.ea q.el q.ec, .slice q.ca q.cl q.cc, .slice q.ga q.gl q.gc, .int .i64 s.allow, .int .i64 s.unit, .int .i64 s.cap, .int .i64 s.paidBreak, .int .i64 s.autoAfter, .int .i64 s.autoBreak, .int .i64 s.dayReg, .int .i64 s.dayOver, .int .i64 s.weekReg, .int .i64 s.nightFrom, .int .i64 s.nightTo, .slice q.ra q.rl q.rc, .int .i64 s.diff, .int .i64 s.least, .int .i64 s.fault, .slice q.ta q.tl q.tc]] w fun e w' => e = .returned (.bool r) ∧ Below w.heap.size w w' := by
  rw [setupP_eq] at hr
  obtain ⟨v0, h0⟩ : ∃ v, ways7P s = v := ⟨_, rfl⟩
  obtain ⟨v1, h1⟩ : ∃ v, shareP s.pn s.pd = v := ⟨_, rfl⟩
  obtain ⟨v2, h2⟩ : ∃ v, (elementsP s.elements && decide (s.elements.length ≤ 8)) = v := ⟨_, rfl⟩
  obtain ⟨v3, h3⟩ : ∃ v, (sharesP s.classes && decide (s.classes.length ≤ 8)) = v := ⟨_, rfl⟩
  obtain ⟨v4, h4⟩ : ∃ v, (sharesP s.gears && decide (s.gears.length ≤ 8)) = v := ⟨_, rfl⟩
  obtain ⟨v5, h5⟩ : ∃ v, timesP s = v := ⟨_, rfl⟩
  obtain ⟨v6, h6⟩ : ∃ v, moneyP s = v := ⟨_, rfl⟩
  rw [h0, h1, h2, h3, h4, h5, h6] at hr
  subst hr
  have H0 := Lib.hid h0
  have H1 := Lib.hid h1
  have H2 := Lib.hid h2
  have H3 := Lib.hid h3
  have H4 := Lib.hid h4
  have H5 := Lib.hid h5
  have H6 := Lib.hid h6
  clear h0 h1 h2 h3 h4 h5 h6
  have hb0 : (w.alloc (.cells #[.int .i64 s.places, .slice q.wa q.wl q.wc, .int .i64 s.pn, .int .i64 s.pd, .slice q.ea q.el q.ec, .slice q.ca q.cl q.cc, .slice q.ga q.gl q.gc, .int .i64 s.allow, .int .i64 s.unit, .int .i64 s.cap, .int .i64 s.paidBreak, .int .i64 s.autoAfter, .int .i64 s.autoBreak, .int .i64 s.dayReg, .int .i64 s.dayOver, .int .i64 s.weekReg, .int .i64 s.nightFrom, .int .i64 s.nightTo, .slice q.ra q.rl q.rc, .int .i64 s.diff, .int .i64 s.least, .int .i64 s.fault, .slice q.ta q.tl q.tc] 30)).heap[w.heap.size]? = some (.cells #[.int .i64 s.places, .slice q.wa q.wl q.wc, .int .i64 s.pn, .int .i64 s.pd, .slice q.ea q.el q.ec, .slice q.ca q.cl q.cc, .slice q.ga q.gl q.gc, .int .i64 s.allow, .int .i64 s.unit, .int .i64 s.cap, .int .i64 s.paidBreak, .int .i64 s.autoAfter, .int .i64 s.autoBreak, .int .i64 s.dayReg, .int .i64 s.dayOver, .int .i64 s.weekReg, .int .i64 s.nightFrom, .int .i64 s.nightTo, .slice q.ra q.rl q.rc, .int .i64 s.diff, .int .i64 s.least, .int .i64 s.fault, .slice q.ta q.tl q.tc] 30) := box_new _ _ rfl _ _
  have Bw0 : Below w.heap.size w (w.alloc (.cells #[.int .i64 s.places, .slice q.wa q.wl q.wc, .int .i64 s.pn, .int .i64 s.pd, .slice q.ea q.el q.ec, .slice q.ca q.cl q.cc, .slice q.ga q.gl q.gc, .int .i64 s.allow, .int .i64 s.unit, .int .i64 s.cap, .int .i64 s.paidBreak, .int .i64 s.autoAfter, .int .i64 s.autoBreak, .int .i64 s.dayReg, .int .i64 s.dayOver, .int .i64 s.weekReg, .int .i64 s.nightFrom, .int .i64 s.nightTo, .slice q.ra q.rl q.rc, .int .i64 s.diff, .int .i64 s.least, .int .i64 s.fault, .slice q.ta q.tl q.tc] 30)) := by go_grown
  have hz0 : w.heap.size < (w.alloc (.cells #[.int .i64 s.places, .slice q.wa q.wl q.wc, .int .i64 s.pn, .int .i64 s.pd, .slice q.ea q.el q.ec, .slice q.ca q.cl q.cc, .slice q.ga q.gl q.gc, .int .i64 s.allow, .int .i64 s.unit, .int .i64 s.cap, .int .i64 s.paidBreak, .int .i64 s.autoAfter, .int .i64 s.autoBreak, .int .i64 s.dayReg, .int .i64 s.dayOver, .int .i64 s.weekReg, .int .i64 s.nightFrom, .int .i64 s.nightTo, .slice q.ra q.rl q.rc, .int .i64 s.diff, .int .i64 s.least, .int .i64 s.fault, .slice q.ta q.tl q.tc] 30)).heap.size := by simp
  have c2 : (w.alloc (.cells #[.int .i64 s.places, .slice q.wa q.wl q.wc, .int .i64 s.pn, .int .i64 s.pd, .slice q.ea q.el q.ec, .slice q.ca q.cl q.cc, .slice q.ga q.gl q.gc, .int .i64 s.allow, .int .i64 s.unit, .int .i64 s.cap, .int .i64 s.paidBreak, .int .i64 s.autoAfter, .int .i64 s.autoBreak, .int .i64 s.dayReg, .int .i64 s.dayOver, .int .i64 s.weekReg, .int .i64 s.nightFrom, .int .i64 s.nightTo, .slice q.ra q.rl q.rc, .int .i64 s.diff, .int .i64 s.least, .int .i64 s.fault, .slice q.ta q.tl q.tc] 30)).cell? ⟨w.heap.size, 2, none⟩ = some (.int .i64 s.pn) := by simp [go_sem]
  have c3 : (w.alloc (.cells #[.int .i64 s.places, .slice q.wa q.wl q.wc, .int .i64 s.pn, .int .i64 s.pd, .slice q.ea q.el q.ec, .slice q.ca q.cl q.cc, .slice q.ga q.gl q.gc, .int .i64 s.allow, .int .i64 s.unit, .int .i64 s.cap, .int .i64 s.paidBreak, .int .i64 s.autoAfter, .int .i64 s.autoBreak, .int .i64 s.dayReg, .int .i64 s.dayOver, .int .i64 s.weekReg, .int .i64 s.nightFrom, .int .i64 s.nightTo, .slice q.ra q.rl q.rc, .int .i64 s.diff, .int .i64 s.least, .int .i64 s.fault, .slice q.ta q.tl q.tc] 30)).cell? ⟨w.heap.size, 3, none⟩ = some (.int .i64 s.pd) := by simp [go_sem]
  have c4 : (w.alloc (.cells #[.int .i64 s.places, .slice q.wa q.wl q.wc, .int .i64 s.pn, .int .i64 s.pd, .slice q.ea q.el q.ec, .slice q.ca q.cl q.cc, .slice q.ga q.gl q.gc, .int .i64 s.allow, .int .i64 s.unit, .int .i64 s.cap, .int .i64 s.paidBreak, .int .i64 s.autoAfter, .int .i64 s.autoBreak, .int .i64 s.dayReg, .int .i64 s.dayOver, .int .i64 s.weekReg, .int .i64 s.nightFrom, .int .i64 s.nightTo, .slice q.ra q.rl q.rc, .int .i64 s.diff, .int .i64 s.least, .int .i64 s.fault, .slice q.ta q.tl q.tc] 30)).cell? ⟨w.heap.size, 4, none⟩ = some (.slice q.ea q.el q.ec) := by simp [go_sem]
  have c5 : (w.alloc (.cells #[.int .i64 s.places, .slice q.wa q.wl q.wc, .int .i64 s.pn, .int .i64 s.pd, .slice q.ea q.el q.ec, .slice q.ca q.cl q.cc, .slice q.ga q.gl q.gc, .int .i64 s.allow, .int .i64 s.unit, .int .i64 s.cap, .int .i64 s.paidBreak, .int .i64 s.autoAfter, .int .i64 s.autoBreak, .int .i64 s.dayReg, .int .i64 s.dayOver, .int .i64 s.weekReg, .int .i64 s.nightFrom, .int .i64 s.nightTo, .slice q.ra q.rl q.rc, .int .i64 s.diff, .int .i64 s.least, .int .i64 s.fault, .slice q.ta q.tl q.tc] 30)).cell? ⟨w.heap.size, 5, none⟩ = some (.slice q.ca q.cl q.cc) := by simp [go_sem]
  have c6 : (w.alloc (.cells #[.int .i64 s.places, .slice q.wa q.wl q.wc, .int .i64 s.pn, .int .i64 s.pd, .slice q.ea q.el q.ec, .slice q.ca q.cl q.cc, .slice q.ga q.gl q.gc, .int .i64 s.allow, .int .i64 s.unit, .int .i64 s.cap, .int .i64 s.paidBreak, .int .i64 s.autoAfter, .int .i64 s.autoBreak, .int .i64 s.dayReg, .int .i64 s.dayOver, .int .i64 s.weekReg, .int .i64 s.nightFrom, .int .i64 s.nightTo, .slice q.ra q.rl q.rc, .int .i64 s.diff, .int .i64 s.least, .int .i64 s.fault, .slice q.ta q.tl q.tc] 30)).cell? ⟨w.heap.size, 6, none⟩ = some (.slice q.ga q.gl q.gc) := by simp [go_sem]
  go_enter Try.func21, Try.ntmps21
  go_wp2_with (refine wpList_load_box 30 (.tmp 1) rfl rfl w.heap.size rfl 30 #[.int .i64 s.places, .slice q.wa q.wl q.wc, .int .i64 s.pn, .int .i64 s.pd, .slice q.ea q.el q.ec, .slice q.ca q.cl q.cc, .slice q.ga q.gl q.gc, .int .i64 s.allow, .int .i64 s.unit, .int .i64 s.cap, .int .i64 s.paidBreak, .int .i64 s.autoAfter, .int .i64 s.autoBreak, .int .i64 s.dayReg, .int .i64 s.dayOver, .int .i64 s.weekReg, .int .i64 s.nightFrom, .int .i64 s.nightTo, .slice q.ra q.rl q.rc, .int .i64 s.diff, .int .i64 s.least, .int .i64 s.fault, .slice q.ta q.tl q.tc] hb0 setup_big ?_)
  refine (ref7_ways s q v0 _ (h.below Bw0) H0.out).mono ?_
  rintro e w1 ⟨rfl, k1⟩
  replace hb0 := box_keep k1 hb0 hz0
  replace c2 := keepD k1 c2
  replace c3 := keepD k1 c3
  replace c4 := keepD k1 c4
  replace c5 := keepD k1 c5
  replace c6 := keepD k1 c6
  replace Bw0 := Bw0.trans (k1.mono (by omega))
  replace hz0 := Nat.lt_of_lt_of_le hz0 k1.size
  clear k1
  go_wp2_with fail
  refine (ref7_share s.pn s.pd v1 _ h.pn h.pd H1.out).mono ?_
  rintro e w2 ⟨rfl, k2⟩
  replace hb0 := box_keep k2 hb0 hz0
  replace c2 := keepD k2 c2
  replace c3 := keepD k2 c3
  replace c4 := keepD k2 c4
  replace c5 := keepD k2 c5
  replace c6 := keepD k2 c6
  replace Bw0 := Bw0.trans (k2.mono (by omega))
  replace hz0 := Nat.lt_of_lt_of_le hz0 k2.size
  clear k2
  go_wp2_with fail
  refine (ref7_elements q.ea q.el q.ec s.elements v2 _ (h.elements.below Bw0) H2.out).mono ?_
  rintro e w3 ⟨rfl, k3⟩
  replace hb0 := box_keep k3 hb0 hz0
  replace c2 := keepD k3 c2
  replace c3 := keepD k3 c3
  replace c4 := keepD k3 c4
  replace c5 := keepD k3 c5
  replace c6 := keepD k3 c6
  replace Bw0 := Bw0.trans (k3.mono (by omega))
  replace hz0 := Nat.lt_of_lt_of_le hz0 k3.size
  clear k3
  go_wp2_with fail
  refine (ref7_shares q.ca q.cl q.cc s.classes v3 _ (h.classes.below Bw0) H3.out).mono ?_
  rintro e w4 ⟨rfl, k4⟩
  replace hb0 := box_keep k4 hb0 hz0
  replace c2 := keepD k4 c2
  replace c3 := keepD k4 c3
  replace c4 := keepD k4 c4
  replace c5 := keepD k4 c5
  replace c6 := keepD k4 c6
  replace Bw0 := Bw0.trans (k4.mono (by omega))
  replace hz0 := Nat.lt_of_lt_of_le hz0 k4.size
  clear k4
  go_wp2_with fail
  refine (ref7_shares q.ga q.gl q.gc s.gears v4 _ (h.gears.below Bw0) H4.out).mono ?_
  rintro e w5 ⟨rfl, k5⟩
  replace hb0 := box_keep k5 hb0 hz0
  replace c2 := keepD k5 c2
  replace c3 := keepD k5 c3
  replace c4 := keepD k5 c4
  replace c5 := keepD k5 c5
  replace c6 := keepD k5 c6
  replace Bw0 := Bw0.trans (k5.mono (by omega))
  replace hz0 := Nat.lt_of_lt_of_le hz0 k5.size
  clear k5
  go_wp2_with (refine wpList_load_box 30 (.tmp 1) rfl rfl w.heap.size rfl 30 #[.int .i64 s.places, .slice q.wa q.wl q.wc, .int .i64 s.pn, .int .i64 s.pd, .slice q.ea q.el q.ec, .slice q.ca q.cl q.cc, .slice q.ga q.gl q.gc, .int .i64 s.allow, .int .i64 s.unit, .int .i64 s.cap, .int .i64 s.paidBreak, .int .i64 s.autoAfter, .int .i64 s.autoBreak, .int .i64 s.dayReg, .int .i64 s.dayOver, .int .i64 s.weekReg, .int .i64 s.nightFrom, .int .i64 s.nightTo, .slice q.ra q.rl q.rc, .int .i64 s.diff, .int .i64 s.least, .int .i64 s.fault, .slice q.ta q.tl q.tc] hb0 setup_big ?_)
  refine (ref7_times s q v5 _ H5.out).mono ?_
  rintro e w6 ⟨rfl, k6⟩
  replace hb0 := box_keep k6 hb0 hz0
  replace c2 := keepD k6 c2
  replace c3 := keepD k6 c3
  replace c4 := keepD k6 c4
  replace c5 := keepD k6 c5
  replace c6 := keepD k6 c6
  replace Bw0 := Bw0.trans (k6.mono (by omega))
  replace hz0 := Nat.lt_of_lt_of_le hz0 k6.size
  clear k6
  go_wp2_with (refine wpList_load_box 30 (.tmp 1) rfl rfl w.heap.size rfl 30 #[.int .i64 s.places, .slice q.wa q.wl q.wc, .int .i64 s.pn, .int .i64 s.pd, .slice q.ea q.el q.ec, .slice q.ca q.cl q.cc, .slice q.ga q.gl q.gc, .int .i64 s.allow, .int .i64 s.unit, .int .i64 s.cap, .int .i64 s.paidBreak, .int .i64 s.autoAfter, .int .i64 s.autoBreak, .int .i64 s.dayReg, .int .i64 s.dayOver, .int .i64 s.weekReg, .int .i64 s.nightFrom, .int .i64 s.nightTo, .slice q.ra q.rl q.rc, .int .i64 s.diff, .int .i64 s.least, .int .i64 s.fault, .slice q.ta q.tl q.tc] hb0 setup_big ?_)
  refine (ref7_money s q v6 _ (h.below Bw0) H6.out).mono ?_
  rintro e w7 ⟨rfl, k7⟩
  replace hb0 := box_keep k7 hb0 hz0
  replace c2 := keepD k7 c2
  replace c3 := keepD k7 c3
  replace c4 := keepD k7 c4
  replace c5 := keepD k7 c5
  replace c6 := keepD k7 c6
  replace Bw0 := Bw0.trans (k7.mono (by omega))
  replace hz0 := Nat.lt_of_lt_of_le hz0 k7.size
  clear k7
  go_wp2_with fail
  all_goals
    go_ret
    exact ⟨ret_bool (by first | (simp [*]; done) | (simp_all; done)), Bw0⟩


def mx6 (a b c d e f : Int) : Int := max a (max b (max c (max d (max e f))))
@[go_sem] theorem run_max_int6 {P : Program} (w : World) (ts : Array TypeId) (t : TypeId) (a b c d e f : Int) : (Builtin.max_ ts t #[.int .i64 a, .int .i64 b, .int .i64 c, .int .i64 d, .int .i64 e, .int .i64 f]).run P w = .ok (.int .i64 (mx6 a b c d e f)) w := by
  have h : ∀ x y : Int, (if x < y then y else x) = max x y := by intro x y; split <;> omega
  simp [Builtin.max_, Builtin.max2, h, mx6]
def fewP (s : Setup) : Bool := decide (s.ways.length ≤ 100) && decide (s.elements.length ≤ 100) && decide (s.classes.length ≤ 100) && decide (s.gears.length ≤ 100) && decide (s.rates.length ≤ 100) && decide (s.tiers.length ≤ 100)
set_option maxHeartbeats 4000000 in
theorem ref7_Few (s : Setup) (q : Slices) (r : Bool) (w : World) (h : SetupIs w s q) (hr : fewP s = r) :
    Calls Try.prog 14 #[.agg #[.int .i64 s.places, .slice q.wa q.wl q.wc, .int .i64 s.pn, .int .i64 s.pd, .slice q.ea q.el q.ec, .slice q.ca q.cl q.cc, .slice q.ga q.gl q.gc, .int .i64 s.allow, .int .i64 s.unit, .int .i64 s.cap, .int .i64 s.paidBreak, .int .i64 s.autoAfter, .int .i64 s.autoBreak, .int .i64 s.dayReg, .int .i64 s.dayOver, .int .i64 s.weekReg, .int .i64 s.nightFrom, .int .i64 s.nightTo, .slice q.ra q.rl q.rc, .int .i64 s.diff, .int .i64 s.least, .int .i64 s.fault, .slice q.ta q.tl q.tc]] w fun e w' => e = .returned (.bool r) ∧ Below w.heap.size w w' := by
  have l1 := h.ways.1
  have l2 := h.elements.1
  have l3 := h.classes.1
  have l4 := h.gears.1
  have l5 := h.rates.1
  have l6 := h.tiers.1
  have hv : fewP s = decide (mx6 q.wl q.el q.cl q.gl q.rl q.tl ≤ 100) := by
    unfold fewP mx6
    rw [l1, l2, l3, l4, l5, l6, Bool.eq_iff_iff]
    simp
    omega
  rw [hr] at hv
  clear l1 l2 l3 l4 l5 l6 hr
  have HV := Lib.hid hv
  clear hv
  go_enter Try.func14, Try.ntmps14
  go_wp2_with fail
  go_ret
  exact ⟨ret_bool HV.out.symm, by go_grown⟩

end Go.Proofs.Ytnjckaifgmliaaa

/- THE WALK of SetupCuts: a setup's bytes that are cut, or with a number more behind, are none. -/

namespace Go.Proofs.Ytnjckaifgmliaaa
open Go.RowKit Lu

set_option maxRecDepth 100000 in
set_option maxHeartbeats 4000000 in
theorem setupCuts_walk (s : Setup) (q : Slices) (cut more : Int) (w : World) (h : SetupIs w s q) (hu : 0 ≤ cut ∧ cut ≤ 65535) (hm : In more) :
    Calls Try.prog 6 #[.agg #[.int .i64 s.places, .slice q.wa q.wl q.wc, .int .i64 s.pn, .int .i64 s.pd, .slice q.ea q.el q.ec, .slice q.ca q.cl q.cc, .slice q.ga q.gl q.gc, .int .i64 s.allow, .int .i64 s.unit, .int .i64 s.cap, .int .i64 s.paidBreak, .int .i64 s.autoAfter, .int .i64 s.autoBreak, .int .i64 s.dayReg, .int .i64 s.dayOver, .int .i64 s.weekReg, .int .i64 s.nightFrom, .int .i64 s.nightTo, .slice q.ra q.rl q.rc, .int .i64 s.diff, .int .i64 s.least, .int .i64 s.fault, .slice q.ta q.tl q.tc], .int .u16 cut, .int .i64 more] w fun e w' => e = .returned (.bool true) ∧ Below w.heap.size w w' := by
  have hb : (w.alloc (.cells #[.int .i64 s.places, .slice q.wa q.wl q.wc, .int .i64 s.pn, .int .i64 s.pd, .slice q.ea q.el q.ec, .slice q.ca q.cl q.cc, .slice q.ga q.gl q.gc, .int .i64 s.allow, .int .i64 s.unit, .int .i64 s.cap, .int .i64 s.paidBreak, .int .i64 s.autoAfter, .int .i64 s.autoBreak, .int .i64 s.dayReg, .int .i64 s.dayOver, .int .i64 s.weekReg, .int .i64 s.nightFrom, .int .i64 s.nightTo, .slice q.ra q.rl q.rc, .int .i64 s.diff, .int .i64 s.least, .int .i64 s.fault, .slice q.ta q.tl q.tc] 30)).heap[w.heap.size]? = some (.cells #[.int .i64 s.places, .slice q.wa q.wl q.wc, .int .i64 s.pn, .int .i64 s.pd, .slice q.ea q.el q.ec, .slice q.ca q.cl q.cc, .slice q.ga q.gl q.gc, .int .i64 s.allow, .int .i64 s.unit, .int .i64 s.cap, .int .i64 s.paidBreak, .int .i64 s.autoAfter, .int .i64 s.autoBreak, .int .i64 s.dayReg, .int .i64 s.dayOver, .int .i64 s.weekReg, .int .i64 s.nightFrom, .int .i64 s.nightTo, .slice q.ra q.rl q.rc, .int .i64 s.diff, .int .i64 s.least, .int .i64 s.fault, .slice q.ta q.tl q.tc] 30) := box_new w _ rfl _ _
  have B0 : Below w.heap.size w (w.alloc (.cells #[.int .i64 s.places, .slice q.wa q.wl q.wc, .int .i64 s.pn, .int .i64 s.pd, .slice q.ea q.el q.ec, .slice q.ca q.cl q.cc, .slice q.ga q.gl q.gc, .int .i64 s.allow, .int .i64 s.unit, .int .i64 s.cap, .int .i64 s.paidBreak, .int .i64 s.autoAfter, .int .i64 s.autoBreak, .int .i64 s.dayReg, .int .i64 s.dayOver, .int .i64 s.weekReg, .int .i64 s.nightFrom, .int .i64 s.nightTo, .slice q.ra q.rl q.rc, .int .i64 s.diff, .int .i64 s.least, .int .i64 s.fault, .slice q.ta q.tl q.tc] 30)) := by go_grown
  have h0 := h.below B0
  obtain ⟨f, hf⟩ : ∃ f, fewP s = f := ⟨_, rfl⟩
  have HF := Lib.hid hf
  have hm0 := hm.1
  have hm1 := hm.2
  obtain ⟨hu0, hu1⟩ := hu
  clear hf h hm
  go_enter Try.func6, Try.ntmps6
  go_wp2_with fail
  refine (awake7 _).mono ?_
  rintro e1 w1 ⟨rfl, k1⟩
  have BB := B0.trans (k1.mono B0.size)
  have hb1 := box_keep k1 hb (block_lt hb)
  have H1 := Lib.hid (h0.below k1)
  obtain ⟨S0, hS0⟩ : ∃ S, w.heap.size = S := ⟨_, rfl⟩
  have HS0 := Lib.hid hS0
  rw [hS0] at hb1 ⊢
  clear k1 hb h0 B0 hS0
  go_wp2_with (refine wpList_load_box 30 (.tmp 3) rfl rfl S0 rfl 30 #[.int .i64 s.places, .slice q.wa q.wl q.wc, .int .i64 s.pn, .int .i64 s.pd, .slice q.ea q.el q.ec, .slice q.ca q.cl q.cc, .slice q.ga q.gl q.gc, .int .i64 s.allow, .int .i64 s.unit, .int .i64 s.cap, .int .i64 s.paidBreak, .int .i64 s.autoAfter, .int .i64 s.autoBreak, .int .i64 s.dayReg, .int .i64 s.dayOver, .int .i64 s.weekReg, .int .i64 s.nightFrom, .int .i64 s.nightTo, .slice q.ra q.rl q.rc, .int .i64 s.diff, .int .i64 s.least, .int .i64 s.fault, .slice q.ta q.tl q.tc] hb1 setup_big ?_)
  refine (setup_Write s q w1 H1.out).mono ?_
  rintro e2 w2 ⟨a, n, c, bs, er, rfl, hwr, hrow, hnc, k2⟩
  replace BB := BB.trans (k2.mono BB.size)
  replace hb1 := box_keep k2 hb1 (block_lt hb1)
  replace H1 := Lib.hid (H1.out.below k2)
  have HROW := Lib.hid hrow
  have HWR := Lib.hid hwr
  clear k2 hrow hwr w1
  go_wp2_with (refine wpList_load_box 30 (.tmp 3) rfl rfl S0 rfl 30 #[.int .i64 s.places, .slice q.wa q.wl q.wc, .int .i64 s.pn, .int .i64 s.pd, .slice q.ea q.el q.ec, .slice q.ca q.cl q.cc, .slice q.ga q.gl q.gc, .int .i64 s.allow, .int .i64 s.unit, .int .i64 s.cap, .int .i64 s.paidBreak, .int .i64 s.autoAfter, .int .i64 s.autoBreak, .int .i64 s.dayReg, .int .i64 s.dayOver, .int .i64 s.weekReg, .int .i64 s.nightFrom, .int .i64 s.nightTo, .slice q.ra q.rl q.rc, .int .i64 s.diff, .int .i64 s.least, .int .i64 s.fault, .slice q.ta q.tl q.tc] hb1 setup_big ?_)
  refine (ref7_Few s q f w2 H1.out HF.out).mono ?_
  rintro e3 w3 ⟨rfl, k3⟩
  replace BB := BB.trans (k3.mono BB.size)
  replace HROW := Lib.hid (HROW.out.below k3)
  clear k3 w2 hb1 H1 HF
  cases f
  · go_wp2_with fail
    go_ret
    exact ⟨rfl, BB⟩
  · by_cases hc : setupP s = true
    · have hw := HWR.out
      rw [writeP_yes hc] at hw
      simp only [Prod.mk.injEq] at hw
      obtain ⟨rfl, rfl⟩ := hw
      have hle := setup_bytes_le hc
      have hnl := HROW.out.1
      have hcut : ∀ k : Nat, k < (manyP (numbersP s)).length → readP ((manyP (numbersP s)).take k) = (noSetup, 70) := fun k hk => readP_no (fun x hx => HROW.out.2.2.1 x (List.mem_of_mem_take hx)) (cut_no hc hk)
      have hmore : Pk more → readP (manyP (numbersP s) ++ oneP more) = (noSetup, 70) := fun hp => readP_no (HROW.out.2.2.1.append (bytes_oneP hp)) (more_no hc more)
      have HCUT := Lib.hid hcut
      have HMORE := Lib.hid hmore
      generalize manyP (numbersP s) = mb at *
      clear hcut hmore HWR hc
      by_cases hn0 : n = 0
      · have y0 : ((n : Int) == 0) = true := by rw [beq_iff_eq]; omega
        go_wp2_with fail
        go_ret
        exact ⟨rfl, BB⟩
      · have y0 : ((n : Int) == 0) = false := by rw [beq_eq_false_iff_ne]; omega
        by_cases hneg : more < 0
        · have ym : decide (more < 0) = true := by rw [decide_eq_true_iff]; exact hneg
          go_wp2_with fail
          go_ret
          exact ⟨rfl, BB⟩
        · have ym : decide (more < 0) = false := by rw [decide_eq_false_iff_not]; exact hneg
          have hpk : Pk more := ⟨by omega, hm1⟩
          have np : (0 : Int) < (n : Int) := by omega
          obtain ⟨k, hk⟩ : ∃ k : Nat, cut % (n : Int) = (k : Int) := ⟨(cut % (n : Int)).toNat, by rw [Int.toNat_of_nonneg (Int.emod_nonneg _ (by omega))]⟩
          have hkn : (k : Int) < (n : Int) := by rw [← hk]; exact Int.emod_lt_of_pos _ np
          have hk1 : cut.tmod (n : Int) = (k : Int) := by rw [Int.tmod_eq_emod_of_nonneg hu0]; exact hk
          have hwc : IntKind.i64.wrap cut = cut := IntWalk.i64_in _ (by omega)
          have hwk : IntKind.i64.wrap (k : Int) = (k : Int) := IntWalk.i64_in _ (by omega)
          have hk0 : (0 : Int) ≤ (k : Int) := by omega
          have hkc : (k : Int) ≤ (c : Int) := by omega
          have HRT := Lib.hid (row_take HROW.out k (by omega))
          have hrt := HCUT.out k (by omega)
          have HLT := Lib.hid (row_lt HROW.out (by omega))
          have HRC := Lib.hid hrt
          clear hrt
          go_wp2_with fail
          refine (setup_Read a k c (mb.take k) w3 HRT.out (by omega) (by omega) HLT.out).mono ?_
          rintro e4 w4 ⟨t, q4, er4, rfl, hrd, -, k4⟩
          rw [HRC.out] at hrd
          simp only [Prod.mk.injEq] at hrd
          obtain ⟨rfl, rfl⟩ := hrd
          replace HROW := Lib.hid (HROW.out.below k4)
          replace BB := BB.trans (k4.mono BB.size)
          clear k4 HRT HRC HLT w3
          go_upto_region 6 with (refine wpList_store_new _ _ _ rfl 30 (.tmp 10) (.tmp 48) rfl #[.int .i64 noSetup.places, .slice q4.wa q4.wl q4.wc, .int .i64 noSetup.pn, .int .i64 noSetup.pd, .slice q4.ea q4.el q4.ec, .slice q4.ca q4.cl q4.cc, .slice q4.ga q4.gl q4.gc, .int .i64 noSetup.allow, .int .i64 noSetup.unit, .int .i64 noSetup.cap, .int .i64 noSetup.paidBreak, .int .i64 noSetup.autoAfter, .int .i64 noSetup.autoBreak, .int .i64 noSetup.dayReg, .int .i64 noSetup.dayOver, .int .i64 noSetup.weekReg, .int .i64 noSetup.nightFrom, .int .i64 noSetup.nightTo, .slice q4.ra q4.rl q4.rc, .int .i64 noSetup.diff, .int .i64 noSetup.least, .int .i64 noSetup.fault, .slice q4.ta q4.tl q4.tc] w4.heap.size rfl rfl rfl rfl setup_size (by kernel_rfl) ?_)
          refine gen_code (S := fun V => Row8 V a n mb ∧ Below w.heap.size w V) ⟨HROW.out.below (by go_grown), BB.alloc BB.size _⟩ (fun V4 hV => ?_)
          clear HROW BB
          generalize w4.heap.size = S4 at *
          clear w4
          obtain ⟨hrow, BB⟩ := hV
          have k5 : Below V4.heap.size V4 (V4.alloc (.cells #[.int .i64 more] 3)) := by go_grown
          have HR5 := Lib.hid (hrow.below k5)
          have hcm : (V4.alloc (.cells #[.int .i64 more] 3)).cell? ⟨V4.heap.size, 0, none⟩ = some (.int .i64 more) := by simp [go_sem]
          have HCM := Lib.hid hcm
          replace BB := BB.trans (k5.mono BB.size)
          clear hrow k5 hcm
          go_wp2_with fail
          refine (pack_Put more a n c mb V4.heap.size 0 1 _ HR5.out (by omega) hpk HCM.out (by simp)).mono ?_
          rintro e6 w6 ⟨v6, rfl, own6, k6⟩
          replace BB := BB.trans (k6.mono BB.size)
          have hol := oneP_len hpk
          obtain ⟨a6, c6, rfl, hrow6⟩ := Row8.of_own own6 (HR5.out.2.2.1.append (bytes_oneP hpk)) (by omega)
          have hc6 := own_cap own6
          have HR6 := Lib.hid hrow6
          have HL6 := Lib.hid (row_lt hrow6 (by omega))
          have HMO := Lib.hid (HMORE.out hpk)
          clear own6 k6 hrow6 HR5 HCM HCUT HMORE
          go_wp2_with fail
          refine (setup_Read a6 (n + (oneP more).length) c6 (mb ++ oneP more) w6 HR6.out (by omega) hc6 HL6.out).mono ?_
          rintro e7 w7 ⟨t7, q7, er7, rfl, hrd, -, k7⟩
          rw [HMO.out] at hrd
          simp only [Prod.mk.injEq] at hrd
          obtain ⟨rfl, rfl⟩ := hrd
          replace BB := BB.trans (k7.mono BB.size)
          clear k7 HR6 HL6 HMO
          go_wp2_with (refine wpList_store_new _ _ _ rfl 30 (.tmp 14) (.tmp 60) rfl #[.int .i64 noSetup.places, .slice q7.wa q7.wl q7.wc, .int .i64 noSetup.pn, .int .i64 noSetup.pd, .slice q7.ea q7.el q7.ec, .slice q7.ca q7.cl q7.cc, .slice q7.ga q7.gl q7.gc, .int .i64 noSetup.allow, .int .i64 noSetup.unit, .int .i64 noSetup.cap, .int .i64 noSetup.paidBreak, .int .i64 noSetup.autoAfter, .int .i64 noSetup.autoBreak, .int .i64 noSetup.dayReg, .int .i64 noSetup.dayOver, .int .i64 noSetup.weekReg, .int .i64 noSetup.nightFrom, .int .i64 noSetup.nightTo, .slice q7.ra q7.rl q7.rc, .int .i64 noSetup.diff, .int .i64 noSetup.least, .int .i64 noSetup.fault, .slice q7.ta q7.tl q7.tc] w7.heap.size rfl rfl rfl rfl setup_size (by kernel_rfl) ?_)
          go_ret
          exact ⟨rfl, BB.alloc BB.size _⟩
    · have hc' : setupP s = false := by simpa using hc
      have hw := HWR.out
      rw [writeP_no hc'] at hw
      simp only [Prod.mk.injEq] at hw
      obtain ⟨rfl, rfl⟩ := hw
      clear HWR HROW
      go_wp2_with fail
      go_ret
      exact ⟨rfl, BB⟩
end Go.Proofs.Ytnjckaifgmliaaa

/- WHAT THE STATEMENTS' FRAMES SHARE: arguments opened into what the walks are told. -/

namespace Go.Proofs.Ytnjckaifgmliaaa
open Go.ChangeShapes Go.WideShapes Go.ChangeAt Go.RowKit Lu

theorem own : ownKnob Try.prog.godebug = none := by kernel_rfl
theorem laidOut : laidOutB Try.prog = true := by kernel_rfl

theorem in_i64 {x : Int} (h : (Lit.int .i64 x).wf = true) : In x := by
  simp [Lit.wf, IntKind.min, IntKind.max, IntKind.signed, IntKind.bits] at h
  exact ⟨by omega, by omega⟩
/-- A slice of ints that came in. -/
theorem open_Ints {H : Type} {enc : TypeId × Value → H} {W : World} {base : Nat} {sp : Nat → Bool} {held : Bool} {a : Option Addr} {len cap : Nat} {d : DataW H} {p : List MemPlace}
    (h : DataW.Trod enc Try.prog W base sp held 27 (.slice a len cap) d p) : ∃ zs, Ints W a len zs := by
  obtain ⟨fuel, hf⟩ := h
  rcases open_ints Try.underlying27 Try.underlying3 (by kernel_rfl) hf with ⟨hcs, _⟩ | ⟨x, l, c, zs, hcs, _, hl, hm, hz, _, hcell, hwz⟩
  · simp [Value.cells] at hcs
    obtain ⟨rfl, rfl, rfl⟩ := hcs
    exact ⟨[], rfl, by decide, by simp, Or.inl rfl⟩
  · simp [Value.cells] at hcs
    obtain ⟨rfl, rfl, rfl⟩ := hcs
    unfold maxLen at hm
    have hz' : len ≤ zs.length := by rw [hz]; split <;> omega
    refine ⟨zs.take len, by rw [List.length_take]; omega, by omega, fun z hz => in_i64 (hwz z (List.mem_of_mem_take hz)), ?_⟩
    by_cases h0 : len = 0
    · exact Or.inl h0
    · right
      obtain ⟨b, off, spot⟩ := x
      have hc := hcell 0 (by omega)
      have hspot : spot = none := by simpa [Addr.add] using World.cell?_spot hc
      subst hspot
      refine ⟨b, off, rfl, fun i hi => ?_⟩
      have := hcell i (by omega)
      rw [Addr.add_lit] at this
      rw [this, List.getD_eq_getElem?_getD, List.getD_eq_getElem?_getD, List.getElem?_take, if_pos hi]

theorem in_i32 {x : Int} (h : (Lit.int .i32 x).wf = true) : -2147483648 ≤ x ∧ x ≤ 2147483647 := by
  simp [Lit.wf, IntKind.min, IntKind.max, IntKind.signed, IntKind.bits] at h
  exact ⟨by omega, by omega⟩
theorem in_u16 {x : Int} (h : (Lit.int .u16 x).wf = true) : 0 ≤ x ∧ x ≤ 65535 := by
  simp [Lit.wf, IntKind.min, IntKind.max, IntKind.signed, IntKind.bits] at h
  exact ⟨by omega, by omega⟩
theorem in_u8 {x : Int} (h : (Lit.int .u8 x).wf = true) : 0 ≤ x ∧ x ≤ 255 := by
  simp [Lit.wf, IntKind.min, IntKind.max, IntKind.signed, IntKind.bits] at h
  exact ⟨by omega, by omega⟩
theorem in_u32 {x : Int} (h : (Lit.int .u32 x).wf = true) : 0 ≤ x ∧ x ≤ 4294967295 := by
  simp [Lit.wf, IntKind.min, IntKind.max, IntKind.signed, IntKind.bits] at h
  exact ⟨by omega, by omega⟩
end Go.Proofs.Ytnjckaifgmliaaa

/- WHAT THE STATEMENTS' FRAMES SHARE: ratios that came in. -/

namespace Go.Proofs.Ytnjckaifgmliaaa
open Go.ChangeShapes Go.WideShapes Go.ChangeAt Go.RowKit Go.Joins Go.Deep Lu

theorem cellsInt : Try.prog.cellsOf 3 = 1 := by kernel_rfl
theorem cellsRatio : Try.prog.cellsOf 24 = 2 := by kernel_rfl
set_option maxRecDepth 100000 in
/-- A ratio that came in. -/
theorem open_Ratio {H : Type} {enc : TypeId × Value → H} {W : World} {b0 base : Nat} {sp : Nat → Bool} {held : Bool} {r : Reach} {v : Value} {d : DataW H} {p : List MemPlace}
    (hv : Value.okWide Try.prog W r b0 24 v) (h : DataW.Trod enc Try.prog W base sp held 24 v d p) : ∃ n m, v = .agg #[.int .i64 n, .int .i64 m] ∧ In n ∧ In m := by
  obtain ⟨c0, c1, y0, y1, m, rfl, _, _, hy0, hy1⟩ := open_agg2 Try.underlying24 (by kernel_rfl) cellsRatio hv h
  obtain ⟨a, e0, _, wa⟩ := DataW.trod_int Try.underlying3 hy0
  obtain ⟨b, e1, _, wb⟩ := DataW.trod_int Try.underlying3 hy1
  simp at e0 e1
  subst e0 e1
  exact ⟨a, b, rfl, in_i64 wa, in_i64 wb⟩
set_option maxRecDepth 100000 in
/-- A slice of ratios that came in. -/
theorem open_Ratios {H : Type} {enc : TypeId × Value → H} {W : World} {base : Nat} {sp : Nat → Bool} {held : Bool} {a : Option Addr} {len cap : Nat} {d : DataW H} {p : List MemPlace}
    (h : DataW.Trod enc Try.prog W base sp held 26 (.slice a len cap) d p) : ∃ rs, Ratios W a len rs := by
  obtain ⟨fuel, hf⟩ := h
  rcases open_slice Try.underlying26 hf with ⟨hcs, _⟩ | ⟨x, l, c, m, n, D, Pl, hcs, hb, hl, hm, hmm, hx, hi⟩
  · simp [Value.cells] at hcs
    obtain ⟨rfl, rfl, rfl⟩ := hcs
    exact ⟨[], rfl, by decide, by simp, Or.inl rfl⟩
  · simp [Value.cells] at hcs
    obtain ⟨rfl, rfl, rfl⟩ := hcs
    unfold maxLen at hm
    have hlm : len ≤ m := by rw [hmm]; split <;> omega
    have each : ∀ i, ∃ r : Int × Int, i < len → In r.1 ∧ In r.2 ∧ W.cell? (x.add (i * 2)) = some (.int .i64 r.1) ∧ W.cell? (x.add (i * 2 + 1)) = some (.int .i64 r.2) := by
      intro i
      by_cases hlt : i < len
      · obtain ⟨cs, hc, ht⟩ := hi i (by omega)
        rw [cellsRatio] at hc
        obtain ⟨ys, k, _, _, hlen, hyl, hfs⟩ := DataW.trod_struct Try.underlying24 ht
        obtain ⟨_, hcl, hat⟩ := World.cells?_some hc
        match cs, hcl with
        | [c0, c1], _ =>
          have f0 : DataW.trod enc Try.prog W base sp held k 3 [c0] = ys[0]? := by have := hfs 0 _ rfl; simpa [cellsInt] using this
          have f1 : DataW.trod enc Try.prog W base sp held k 3 [c1] = ys[1]? := by have := hfs 1 _ rfl; simpa [cellsInt] using this
          have g0 : ys[0]? = some (ys[0]'(by rw [hyl]; decide)) := List.getElem?_eq_getElem _
          have g1 : ys[1]? = some (ys[1]'(by rw [hyl]; decide)) := List.getElem?_eq_getElem _
          rw [g0] at f0
          rw [g1] at f1
          obtain ⟨u, e0, _, wu⟩ := DataW.trod_int Try.underlying3 f0
          obtain ⟨v, e1, _, wv⟩ := DataW.trod_int Try.underlying3 f1
          simp at e0 e1
          subst e0 e1
          refine ⟨(u, v), fun _ => ⟨in_i64 wu, in_i64 wv, ?_, ?_⟩⟩
          · have := hat 0 (by decide)
            rw [add_add] at this
            exact this
          · have := hat 1 (by decide)
            rw [add_add] at this
            exact this
      · exact ⟨(0, 0), fun h => absurd h hlt⟩
    obtain ⟨f, hf'⟩ := Classical.axiomOfChoice each
    have hget : ∀ i, i < len → ((List.range len).map f).getD i (0, 0) = f i := by
      intro i hlt
      rw [List.getD_eq_getElem?_getD, List.getElem?_map, List.getElem?_range hlt]
      rfl
    refine ⟨(List.range len).map f, by simp, by omega, ?_, ?_⟩
    · intro r hr
      obtain ⟨i, hi', rfl⟩ := List.mem_map.1 hr
      have := hf' i (List.mem_range.1 hi')
      exact ⟨this.1, this.2.1⟩
    · by_cases h0 : len = 0
      · exact Or.inl h0
      · right
        obtain ⟨b, off, spot⟩ := x
        have hc := (hf' 0 (by omega)).2.2.1
        have hspot : spot = none := by simpa [Addr.add] using World.cell?_spot hc
        subst hspot
        have hblk : b < W.heap.size := by
          have := World.block_lt_of_cell? W _ hc
          simpa [Addr.add] using this
        refine ⟨b, off, rfl, hblk, fun i hlt => ?_⟩
        have := hf' i hlt
        rw [hget i hlt]
        rw [Addr.add_lit, Addr.add_lit] at this
        exact ⟨this.2.2.1, by rw [Nat.add_assoc]; exact this.2.2.2⟩
end Go.Proofs.Ytnjckaifgmliaaa

/- WHAT THE STATEMENTS' FRAMES SHARE: a setup that came in; seven seconds that came in. -/

namespace Go.Proofs.Ytnjckaifgmliaaa
open Go.ChangeShapes Go.WideShapes Go.ChangeAt Go.RowKit Go.Joins Go.Deep Lu

theorem slice_of {H : Type} {enc : TypeId × Value → H} {W : World} {base fuel : Nat} {sp : Nat → Bool} {held : Bool} {t e : TypeId} {c : Value} {x : DataW H × List MemPlace} (ht : Try.prog.underlying t = some (.slice e))
    (h : DataW.trod enc Try.prog W base sp held fuel t [c] = some x) : ∃ a len cap, c = .slice a len cap := by
  rcases open_slice ht h with ⟨hcs, _⟩ | ⟨a, len, cap, m, n, D, Pl, hcs, _⟩
  · exact ⟨none, 0, 0, by simpa using hcs⟩
  · exact ⟨some a, len, cap, by simpa using hcs⟩


theorem ratio_cells {H : Type} {enc : TypeId × Value → H} {W : World} {base fuel : Nat} {sp : Nat → Bool} {held : Bool} {c0 c1 : Value} {x : DataW H × List MemPlace}
    (h : DataW.trod enc Try.prog W base sp held fuel 24 [c0, c1] = some x) : ∃ u v : Int, c0 = .int .i64 u ∧ c1 = .int .i64 v ∧ (Lit.int .i64 u).wf = true ∧ (Lit.int .i64 v).wf = true := by
  obtain ⟨ys, k, _, _, hlen, hyl, hfs⟩ := DataW.trod_struct Try.underlying24 h
  have f0 : DataW.trod enc Try.prog W base sp held k 3 [c0] = ys[0]? := by have := hfs 0 _ rfl; simpa [cellsInt] using this
  have f1 : DataW.trod enc Try.prog W base sp held k 3 [c1] = ys[1]? := by have := hfs 1 _ rfl; simpa [cellsInt] using this
  have g0 : ys[0]? = some (ys[0]'(by rw [hyl]; decide)) := List.getElem?_eq_getElem _
  have g1 : ys[1]? = some (ys[1]'(by rw [hyl]; decide)) := List.getElem?_eq_getElem _
  rw [g0] at f0
  rw [g1] at f1
  obtain ⟨u, e0, _, wu⟩ := DataW.trod_int Try.underlying3 f0
  obtain ⟨v, e1, _, wv⟩ := DataW.trod_int Try.underlying3 f1
  simp at e0 e1
  exact ⟨u, v, e0, e1, wu, wv⟩


theorem cells_Ways : Try.prog.cellsOf 58 = 3 := by kernel_rfl
set_option maxRecDepth 100000 in
theorem open_Ways {H : Type} {enc : TypeId × Value → H} {W : World} {base : Nat} {sp : Nat → Bool} {held : Bool} {a : Option Addr} {len cap : Nat} {d : DataW H} {p : List MemPlace}
    (h : DataW.Trod enc Try.prog W base sp held 22 (.slice a len cap) d p) : ∃ rs, Recs3 W a len rs := by
  obtain ⟨fuel, hf⟩ := h
  rcases open_slice Try.underlying22 hf with ⟨hcs, _⟩ | ⟨x, l, c, m, n, D, Pl, hcs, hb, hl, hm, hmm, hx, hi⟩
  · simp [Value.cells] at hcs
    obtain ⟨rfl, rfl, rfl⟩ := hcs
    exact ⟨[], rfl, by decide, by simp, Or.inl rfl⟩
  · simp [Value.cells] at hcs
    obtain ⟨rfl, rfl, rfl⟩ := hcs
    unfold maxLen at hm
    have hlm : len ≤ m := by rw [hmm]; split <;> omega
    have each : ∀ i, ∃ r : Int × Int × Int, i < len → In r.1 ∧ In r.2.1 ∧ In r.2.2 ∧ W.cell? (x.add (i * 3)) = some (.int .i64 r.1) ∧ W.cell? (x.add (i * 3 + 1)) = some (.int .i64 r.2.1) ∧ W.cell? (x.add (i * 3 + 2)) = some (.int .i64 r.2.2) := by
      intro i
      by_cases hlt : i < len
      · obtain ⟨cs, hc, ht⟩ := hi i (by omega)
        rw [cells_Ways] at hc
        obtain ⟨ys, k, _, _, hlen, hyl, hfs⟩ := DataW.trod_struct Try.underlying58 ht
        obtain ⟨_, hcl, hat⟩ := World.cells?_some hc
        match cs, hcl with
        | [c0, c1, c2], _ =>
          have f0 : DataW.trod enc Try.prog W base sp held k 3 [c0] = ys[0]? := by have := hfs 0 _ rfl; simpa [cellsInt, cellsRatio] using this
          have g0 : ys[0]? = some (ys[0]'(by rw [hyl]; decide)) := List.getElem?_eq_getElem _
          rw [g0] at f0
          obtain ⟨u0, e0, _, w0⟩ := DataW.trod_int Try.underlying3 f0
          have f1 : DataW.trod enc Try.prog W base sp held k 3 [c1] = ys[1]? := by have := hfs 1 _ rfl; simpa [cellsInt, cellsRatio] using this
          have g1 : ys[1]? = some (ys[1]'(by rw [hyl]; decide)) := List.getElem?_eq_getElem _
          rw [g1] at f1
          obtain ⟨u1, e1, _, w1⟩ := DataW.trod_int Try.underlying3 f1
          have f2 : DataW.trod enc Try.prog W base sp held k 3 [c2] = ys[2]? := by have := hfs 2 _ rfl; simpa [cellsInt, cellsRatio] using this
          have g2 : ys[2]? = some (ys[2]'(by rw [hyl]; decide)) := List.getElem?_eq_getElem _
          rw [g2] at f2
          obtain ⟨u2, e2, _, w2⟩ := DataW.trod_int Try.underlying3 f2
          simp at e0 e1 e2
          subst e0 e1 e2
          refine ⟨(u0, u1, u2), fun _ => ⟨in_i64 w0, in_i64 w1, in_i64 w2, ?_, ?_, ?_⟩⟩
          · have := hat 0 (by decide)
            rw [add_add] at this
            exact this
          · have := hat 1 (by decide)
            rw [add_add] at this
            exact this
          · have := hat 2 (by decide)
            rw [add_add] at this
            exact this
      · exact ⟨(0, 0, 0), fun h => absurd h hlt⟩
    obtain ⟨f, hf'⟩ := Classical.axiomOfChoice each
    have hget : ∀ i, i < len → ((List.range len).map f).getD i (0, 0, 0) = f i := by
      intro i hlt
      rw [List.getD_eq_getElem?_getD, List.getElem?_map, List.getElem?_range hlt]
      rfl
    refine ⟨(List.range len).map f, by simp, by omega, ?_, ?_⟩
    · intro r hr
      obtain ⟨i, hi', rfl⟩ := List.mem_map.1 hr
      have := hf' i (List.mem_range.1 hi')
      exact ⟨this.1, this.2.1, this.2.2.1⟩
    · by_cases h0 : len = 0
      · exact Or.inl h0
      · right
        obtain ⟨b, off, spot⟩ := x
        have hc := (hf' 0 (by omega)).2.2.2.1
        have hspot : spot = none := by simpa [Addr.add] using World.cell?_spot hc
        subst hspot
        have hblk : b < W.heap.size := by
          have := World.block_lt_of_cell? W _ hc
          simpa [Addr.add] using this
        refine ⟨b, off, rfl, hblk, fun i hlt => ?_⟩
        have := hf' i hlt
        rw [hget i hlt]
        rw [Addr.add_lit, Addr.add_lit, Addr.add_lit] at this
        exact ⟨this.2.2.2.1, by rw [Nat.add_assoc]; exact this.2.2.2.2.1, by rw [Nat.add_assoc]; exact this.2.2.2.2.2⟩


theorem cells_Elements : Try.prog.cellsOf 74 = 4 := by kernel_rfl
set_option maxRecDepth 100000 in
theorem open_Elements {H : Type} {enc : TypeId × Value → H} {W : World} {base : Nat} {sp : Nat → Bool} {held : Bool} {a : Option Addr} {len cap : Nat} {d : DataW H} {p : List MemPlace}
    (h : DataW.Trod enc Try.prog W base sp held 25 (.slice a len cap) d p) : ∃ rs, Recs4 W a len rs := by
  obtain ⟨fuel, hf⟩ := h
  rcases open_slice Try.underlying25 hf with ⟨hcs, _⟩ | ⟨x, l, c, m, n, D, Pl, hcs, hb, hl, hm, hmm, hx, hi⟩
  · simp [Value.cells] at hcs
    obtain ⟨rfl, rfl, rfl⟩ := hcs
    exact ⟨[], rfl, by decide, by simp, Or.inl rfl⟩
  · simp [Value.cells] at hcs
    obtain ⟨rfl, rfl, rfl⟩ := hcs
    unfold maxLen at hm
    have hlm : len ≤ m := by rw [hmm]; split <;> omega
    have each : ∀ i, ∃ r : Int × Int × Int × Int, i < len → In r.1 ∧ In r.2.1 ∧ In r.2.2.1 ∧ In r.2.2.2 ∧ W.cell? (x.add (i * 4)) = some (.int .i64 r.1) ∧ W.cell? (x.add (i * 4 + 1)) = some (.int .i64 r.2.1) ∧ W.cell? (x.add (i * 4 + 2)) = some (.int .i64 r.2.2.1) ∧ W.cell? (x.add (i * 4 + 3)) = some (.int .i64 r.2.2.2) := by
      intro i
      by_cases hlt : i < len
      · obtain ⟨cs, hc, ht⟩ := hi i (by omega)
        rw [cells_Elements] at hc
        obtain ⟨ys, k, _, _, hlen, hyl, hfs⟩ := DataW.trod_struct Try.underlying74 ht
        obtain ⟨_, hcl, hat⟩ := World.cells?_some hc
        match cs, hcl with
        | [c0, c1, c2, c3], _ =>
          have f0 : DataW.trod enc Try.prog W base sp held k 24 [c0, c1] = ys[0]? := by have := hfs 0 _ rfl; simpa [cellsInt, cellsRatio] using this
          have g0 : ys[0]? = some (ys[0]'(by rw [hyl]; decide)) := List.getElem?_eq_getElem _
          rw [g0] at f0
          obtain ⟨u0, u1, e0, e1, w0, w1⟩ := ratio_cells f0
          have f1 : DataW.trod enc Try.prog W base sp held k 24 [c2, c3] = ys[1]? := by have := hfs 1 _ rfl; simpa [cellsInt, cellsRatio] using this
          have g1 : ys[1]? = some (ys[1]'(by rw [hyl]; decide)) := List.getElem?_eq_getElem _
          rw [g1] at f1
          obtain ⟨u2, u3, e2, e3, w2, w3⟩ := ratio_cells f1
          subst e0 e1 e2 e3
          refine ⟨(u0, u1, u2, u3), fun _ => ⟨in_i64 w0, in_i64 w1, in_i64 w2, in_i64 w3, ?_, ?_, ?_, ?_⟩⟩
          · have := hat 0 (by decide)
            rw [add_add] at this
            exact this
          · have := hat 1 (by decide)
            rw [add_add] at this
            exact this
          · have := hat 2 (by decide)
            rw [add_add] at this
            exact this
          · have := hat 3 (by decide)
            rw [add_add] at this
            exact this
      · exact ⟨(0, 0, 0, 0), fun h => absurd h hlt⟩
    obtain ⟨f, hf'⟩ := Classical.axiomOfChoice each
    have hget : ∀ i, i < len → ((List.range len).map f).getD i (0, 0, 0, 0) = f i := by
      intro i hlt
      rw [List.getD_eq_getElem?_getD, List.getElem?_map, List.getElem?_range hlt]
      rfl
    refine ⟨(List.range len).map f, by simp, by omega, ?_, ?_⟩
    · intro r hr
      obtain ⟨i, hi', rfl⟩ := List.mem_map.1 hr
      have := hf' i (List.mem_range.1 hi')
      exact ⟨this.1, this.2.1, this.2.2.1, this.2.2.2.1⟩
    · by_cases h0 : len = 0
      · exact Or.inl h0
      · right
        obtain ⟨b, off, spot⟩ := x
        have hc := (hf' 0 (by omega)).2.2.2.2.1
        have hspot : spot = none := by simpa [Addr.add] using World.cell?_spot hc
        subst hspot
        have hblk : b < W.heap.size := by
          have := World.block_lt_of_cell? W _ hc
          simpa [Addr.add] using this
        refine ⟨b, off, rfl, hblk, fun i hlt => ?_⟩
        have := hf' i hlt
        rw [hget i hlt]
        rw [Addr.add_lit, Addr.add_lit, Addr.add_lit, Addr.add_lit] at this
        exact ⟨this.2.2.2.2.1, by rw [Nat.add_assoc]; exact this.2.2.2.2.2.1, by rw [Nat.add_assoc]; exact this.2.2.2.2.2.2.1, by rw [Nat.add_assoc]; exact this.2.2.2.2.2.2.2⟩


theorem cells_Tiers : Try.prog.cellsOf 76 = 2 := by kernel_rfl
set_option maxRecDepth 100000 in
theorem open_Tiers {H : Type} {enc : TypeId × Value → H} {W : World} {base : Nat} {sp : Nat → Bool} {held : Bool} {a : Option Addr} {len cap : Nat} {d : DataW H} {p : List MemPlace}
    (h : DataW.Trod enc Try.prog W base sp held 28 (.slice a len cap) d p) : ∃ rs, Ratios W a len rs := by
  obtain ⟨fuel, hf⟩ := h
  rcases open_slice Try.underlying28 hf with ⟨hcs, _⟩ | ⟨x, l, c, m, n, D, Pl, hcs, hb, hl, hm, hmm, hx, hi⟩
  · simp [Value.cells] at hcs
    obtain ⟨rfl, rfl, rfl⟩ := hcs
    exact ⟨[], rfl, by decide, by simp, Or.inl rfl⟩
  · simp [Value.cells] at hcs
    obtain ⟨rfl, rfl, rfl⟩ := hcs
    unfold maxLen at hm
    have hlm : len ≤ m := by rw [hmm]; split <;> omega
    have each : ∀ i, ∃ r : Int × Int, i < len → In r.1 ∧ In r.2 ∧ W.cell? (x.add (i * 2)) = some (.int .i64 r.1) ∧ W.cell? (x.add (i * 2 + 1)) = some (.int .i64 r.2) := by
      intro i
      by_cases hlt : i < len
      · obtain ⟨cs, hc, ht⟩ := hi i (by omega)
        rw [cells_Tiers] at hc
        obtain ⟨ys, k, _, _, hlen, hyl, hfs⟩ := DataW.trod_struct Try.underlying76 ht
        obtain ⟨_, hcl, hat⟩ := World.cells?_some hc
        match cs, hcl with
        | [c0, c1], _ =>
          have f0 : DataW.trod enc Try.prog W base sp held k 3 [c0] = ys[0]? := by have := hfs 0 _ rfl; simpa [cellsInt, cellsRatio] using this
          have g0 : ys[0]? = some (ys[0]'(by rw [hyl]; decide)) := List.getElem?_eq_getElem _
          rw [g0] at f0
          obtain ⟨u0, e0, _, w0⟩ := DataW.trod_int Try.underlying3 f0
          have f1 : DataW.trod enc Try.prog W base sp held k 3 [c1] = ys[1]? := by have := hfs 1 _ rfl; simpa [cellsInt, cellsRatio] using this
          have g1 : ys[1]? = some (ys[1]'(by rw [hyl]; decide)) := List.getElem?_eq_getElem _
          rw [g1] at f1
          obtain ⟨u1, e1, _, w1⟩ := DataW.trod_int Try.underlying3 f1
          simp at e0 e1
          subst e0 e1
          refine ⟨(u0, u1), fun _ => ⟨in_i64 w0, in_i64 w1, ?_, ?_⟩⟩
          · have := hat 0 (by decide)
            rw [add_add] at this
            exact this
          · have := hat 1 (by decide)
            rw [add_add] at this
            exact this
      · exact ⟨(0, 0), fun h => absurd h hlt⟩
    obtain ⟨f, hf'⟩ := Classical.axiomOfChoice each
    have hget : ∀ i, i < len → ((List.range len).map f).getD i (0, 0) = f i := by
      intro i hlt
      rw [List.getD_eq_getElem?_getD, List.getElem?_map, List.getElem?_range hlt]
      rfl
    refine ⟨(List.range len).map f, by simp, by omega, ?_, ?_⟩
    · intro r hr
      obtain ⟨i, hi', rfl⟩ := List.mem_map.1 hr
      have := hf' i (List.mem_range.1 hi')
      exact ⟨this.1, this.2.1⟩
    · by_cases h0 : len = 0
      · exact Or.inl h0
      · right
        obtain ⟨b, off, spot⟩ := x
        have hc := (hf' 0 (by omega)).2.2.1
        have hspot : spot = none := by simpa [Addr.add] using World.cell?_spot hc
        subst hspot
        have hblk : b < W.heap.size := by
          have := World.block_lt_of_cell? W _ hc
          simpa [Addr.add] using this
        refine ⟨b, off, rfl, hblk, fun i hlt => ?_⟩
        have := hf' i hlt
        rw [hget i hlt]
        rw [Addr.add_lit, Addr.add_lit] at this
        exact ⟨this.2.2.1, by rw [Nat.add_assoc]; exact this.2.2.2⟩


theorem cells_Setup : Try.prog.cellsOf 30 = 23 := by kernel_rfl
theorem cells_sl0 : Try.prog.cellsOf 22 = 1 := by kernel_rfl
theorem cells_sl1 : Try.prog.cellsOf 25 = 1 := by kernel_rfl
theorem cells_sl2 : Try.prog.cellsOf 26 = 1 := by kernel_rfl
theorem cells_sl3 : Try.prog.cellsOf 27 = 1 := by kernel_rfl
theorem cells_sl4 : Try.prog.cellsOf 28 = 1 := by kernel_rfl
set_option maxRecDepth 100000 in
set_option maxHeartbeats 4000000 in
theorem open_Setup {H : Type} {enc : TypeId × Value → H} {W : World} {b0 base : Nat} {sp : Nat → Bool} {held : Bool} {r : Reach} {v : Value} {d : DataW H} {p : List MemPlace}
    (hv : Value.okWide Try.prog W r b0 30 v) (h : DataW.Trod enc Try.prog W base sp held 30 v d p) : ∃ s q, v = .agg #[.int .i64 s.places, .slice q.wa q.wl q.wc, .int .i64 s.pn, .int .i64 s.pd, .slice q.ea q.el q.ec, .slice q.ca q.cl q.cc, .slice q.ga q.gl q.gc, .int .i64 s.allow, .int .i64 s.unit, .int .i64 s.cap, .int .i64 s.paidBreak, .int .i64 s.autoAfter, .int .i64 s.autoBreak, .int .i64 s.dayReg, .int .i64 s.dayOver, .int .i64 s.weekReg, .int .i64 s.nightFrom, .int .i64 s.nightTo, .slice q.ra q.rl q.rc, .int .i64 s.diff, .int .i64 s.least, .int .i64 s.fault, .slice q.ta q.tl q.tc] ∧ SetupIs W s q := by
  obtain ⟨cs, rfl, hsz⟩ := okWide_struct Try.underlying30 hv
  obtain ⟨l⟩ := cs
  match l, hsz.trans cells_Setup with
  | [c0, c1, c2, c3, c4, c5, c6, c7, c8, c9, c10, c11, c12, c13, c14, c15, c16, c17, c18, c19, c20, c21, c22], _ =>
    obtain ⟨fuel, hf⟩ := h
    obtain ⟨ys, n, _, _, hlen, hyl, hg⟩ := DataW.trod_struct Try.underlying30 hf
    have f0 : DataW.trod enc Try.prog W base sp held n 3 [c0] = ys[0]? := by have := hg 0 _ rfl; simpa [cellsInt, cellsRatio, cells_sl0, cells_sl1, cells_sl2, cells_sl3, cells_sl4, Value.cells] using this
    rw [show ys[0]? = some (ys[0]'(by rw [hyl]; decide)) from List.getElem?_eq_getElem _] at f0
    obtain ⟨u0, e0, _, w0⟩ := DataW.trod_int Try.underlying3 f0
    obtain rfl : c0 = .int .i64 u0 := by simpa using e0
    have f1 : DataW.trod enc Try.prog W base sp held n 22 [c1] = ys[1]? := by have := hg 1 _ rfl; simpa [cellsInt, cellsRatio, cells_sl0, cells_sl1, cells_sl2, cells_sl3, cells_sl4, Value.cells] using this
    rw [show ys[1]? = some (ys[1]'(by rw [hyl]; decide)) from List.getElem?_eq_getElem _] at f1
    obtain ⟨a1, l1, k1, rfl⟩ := slice_of Try.underlying22 f1
    obtain ⟨z1, w1⟩ := open_Ways ⟨_, f1⟩
    have f2 : DataW.trod enc Try.prog W base sp held n 24 [c2, c3] = ys[2]? := by have := hg 2 _ rfl; simpa [cellsInt, cellsRatio, cells_sl0, cells_sl1, cells_sl2, cells_sl3, cells_sl4, Value.cells] using this
    rw [show ys[2]? = some (ys[2]'(by rw [hyl]; decide)) from List.getElem?_eq_getElem _] at f2
    obtain ⟨u2, u3, rfl, rfl, w2, w3⟩ := ratio_cells f2
    have f3 : DataW.trod enc Try.prog W base sp held n 25 [c4] = ys[3]? := by have := hg 3 _ rfl; simpa [cellsInt, cellsRatio, cells_sl0, cells_sl1, cells_sl2, cells_sl3, cells_sl4, Value.cells] using this
    rw [show ys[3]? = some (ys[3]'(by rw [hyl]; decide)) from List.getElem?_eq_getElem _] at f3
    obtain ⟨a4, l4, k4, rfl⟩ := slice_of Try.underlying25 f3
    obtain ⟨z4, w4⟩ := open_Elements ⟨_, f3⟩
    have f4 : DataW.trod enc Try.prog W base sp held n 26 [c5] = ys[4]? := by have := hg 4 _ rfl; simpa [cellsInt, cellsRatio, cells_sl0, cells_sl1, cells_sl2, cells_sl3, cells_sl4, Value.cells] using this
    rw [show ys[4]? = some (ys[4]'(by rw [hyl]; decide)) from List.getElem?_eq_getElem _] at f4
    obtain ⟨a5, l5, k5, rfl⟩ := slice_of Try.underlying26 f4
    obtain ⟨z5, w5⟩ := open_Ratios ⟨_, f4⟩
    have f5 : DataW.trod enc Try.prog W base sp held n 26 [c6] = ys[5]? := by have := hg 5 _ rfl; simpa [cellsInt, cellsRatio, cells_sl0, cells_sl1, cells_sl2, cells_sl3, cells_sl4, Value.cells] using this
    rw [show ys[5]? = some (ys[5]'(by rw [hyl]; decide)) from List.getElem?_eq_getElem _] at f5
    obtain ⟨a6, l6, k6, rfl⟩ := slice_of Try.underlying26 f5
    obtain ⟨z6, w6⟩ := open_Ratios ⟨_, f5⟩
    have f6 : DataW.trod enc Try.prog W base sp held n 3 [c7] = ys[6]? := by have := hg 6 _ rfl; simpa [cellsInt, cellsRatio, cells_sl0, cells_sl1, cells_sl2, cells_sl3, cells_sl4, Value.cells] using this
    rw [show ys[6]? = some (ys[6]'(by rw [hyl]; decide)) from List.getElem?_eq_getElem _] at f6
    obtain ⟨u7, e7, _, w7⟩ := DataW.trod_int Try.underlying3 f6
    obtain rfl : c7 = .int .i64 u7 := by simpa using e7
    have f7 : DataW.trod enc Try.prog W base sp held n 3 [c8] = ys[7]? := by have := hg 7 _ rfl; simpa [cellsInt, cellsRatio, cells_sl0, cells_sl1, cells_sl2, cells_sl3, cells_sl4, Value.cells] using this
    rw [show ys[7]? = some (ys[7]'(by rw [hyl]; decide)) from List.getElem?_eq_getElem _] at f7
    obtain ⟨u8, e8, _, w8⟩ := DataW.trod_int Try.underlying3 f7
    obtain rfl : c8 = .int .i64 u8 := by simpa using e8
    have f8 : DataW.trod enc Try.prog W base sp held n 3 [c9] = ys[8]? := by have := hg 8 _ rfl; simpa [cellsInt, cellsRatio, cells_sl0, cells_sl1, cells_sl2, cells_sl3, cells_sl4, Value.cells] using this
    rw [show ys[8]? = some (ys[8]'(by rw [hyl]; decide)) from List.getElem?_eq_getElem _] at f8
    obtain ⟨u9, e9, _, w9⟩ := DataW.trod_int Try.underlying3 f8
    obtain rfl : c9 = .int .i64 u9 := by simpa using e9
    have f9 : DataW.trod enc Try.prog W base sp held n 3 [c10] = ys[9]? := by have := hg 9 _ rfl; simpa [cellsInt, cellsRatio, cells_sl0, cells_sl1, cells_sl2, cells_sl3, cells_sl4, Value.cells] using this
    rw [show ys[9]? = some (ys[9]'(by rw [hyl]; decide)) from List.getElem?_eq_getElem _] at f9
    obtain ⟨u10, e10, _, w10⟩ := DataW.trod_int Try.underlying3 f9
    obtain rfl : c10 = .int .i64 u10 := by simpa using e10
    have f10 : DataW.trod enc Try.prog W base sp held n 3 [c11] = ys[10]? := by have := hg 10 _ rfl; simpa [cellsInt, cellsRatio, cells_sl0, cells_sl1, cells_sl2, cells_sl3, cells_sl4, Value.cells] using this
    rw [show ys[10]? = some (ys[10]'(by rw [hyl]; decide)) from List.getElem?_eq_getElem _] at f10
    obtain ⟨u11, e11, _, w11⟩ := DataW.trod_int Try.underlying3 f10
    obtain rfl : c11 = .int .i64 u11 := by simpa using e11
    have f11 : DataW.trod enc Try.prog W base sp held n 3 [c12] = ys[11]? := by have := hg 11 _ rfl; simpa [cellsInt, cellsRatio, cells_sl0, cells_sl1, cells_sl2, cells_sl3, cells_sl4, Value.cells] using this
    rw [show ys[11]? = some (ys[11]'(by rw [hyl]; decide)) from List.getElem?_eq_getElem _] at f11
    obtain ⟨u12, e12, _, w12⟩ := DataW.trod_int Try.underlying3 f11
    obtain rfl : c12 = .int .i64 u12 := by simpa using e12
    have f12 : DataW.trod enc Try.prog W base sp held n 3 [c13] = ys[12]? := by have := hg 12 _ rfl; simpa [cellsInt, cellsRatio, cells_sl0, cells_sl1, cells_sl2, cells_sl3, cells_sl4, Value.cells] using this
    rw [show ys[12]? = some (ys[12]'(by rw [hyl]; decide)) from List.getElem?_eq_getElem _] at f12
    obtain ⟨u13, e13, _, w13⟩ := DataW.trod_int Try.underlying3 f12
    obtain rfl : c13 = .int .i64 u13 := by simpa using e13
    have f13 : DataW.trod enc Try.prog W base sp held n 3 [c14] = ys[13]? := by have := hg 13 _ rfl; simpa [cellsInt, cellsRatio, cells_sl0, cells_sl1, cells_sl2, cells_sl3, cells_sl4, Value.cells] using this
    rw [show ys[13]? = some (ys[13]'(by rw [hyl]; decide)) from List.getElem?_eq_getElem _] at f13
    obtain ⟨u14, e14, _, w14⟩ := DataW.trod_int Try.underlying3 f13
    obtain rfl : c14 = .int .i64 u14 := by simpa using e14
    have f14 : DataW.trod enc Try.prog W base sp held n 3 [c15] = ys[14]? := by have := hg 14 _ rfl; simpa [cellsInt, cellsRatio, cells_sl0, cells_sl1, cells_sl2, cells_sl3, cells_sl4, Value.cells] using this
    rw [show ys[14]? = some (ys[14]'(by rw [hyl]; decide)) from List.getElem?_eq_getElem _] at f14
    obtain ⟨u15, e15, _, w15⟩ := DataW.trod_int Try.underlying3 f14
    obtain rfl : c15 = .int .i64 u15 := by simpa using e15
    have f15 : DataW.trod enc Try.prog W base sp held n 3 [c16] = ys[15]? := by have := hg 15 _ rfl; simpa [cellsInt, cellsRatio, cells_sl0, cells_sl1, cells_sl2, cells_sl3, cells_sl4, Value.cells] using this
    rw [show ys[15]? = some (ys[15]'(by rw [hyl]; decide)) from List.getElem?_eq_getElem _] at f15
    obtain ⟨u16, e16, _, w16⟩ := DataW.trod_int Try.underlying3 f15
    obtain rfl : c16 = .int .i64 u16 := by simpa using e16
    have f16 : DataW.trod enc Try.prog W base sp held n 3 [c17] = ys[16]? := by have := hg 16 _ rfl; simpa [cellsInt, cellsRatio, cells_sl0, cells_sl1, cells_sl2, cells_sl3, cells_sl4, Value.cells] using this
    rw [show ys[16]? = some (ys[16]'(by rw [hyl]; decide)) from List.getElem?_eq_getElem _] at f16
    obtain ⟨u17, e17, _, w17⟩ := DataW.trod_int Try.underlying3 f16
    obtain rfl : c17 = .int .i64 u17 := by simpa using e17
    have f17 : DataW.trod enc Try.prog W base sp held n 27 [c18] = ys[17]? := by have := hg 17 _ rfl; simpa [cellsInt, cellsRatio, cells_sl0, cells_sl1, cells_sl2, cells_sl3, cells_sl4, Value.cells] using this
    rw [show ys[17]? = some (ys[17]'(by rw [hyl]; decide)) from List.getElem?_eq_getElem _] at f17
    obtain ⟨a18, l18, k18, rfl⟩ := slice_of Try.underlying27 f17
    obtain ⟨z18, w18⟩ := open_Ints ⟨_, f17⟩
    have f18 : DataW.trod enc Try.prog W base sp held n 3 [c19] = ys[18]? := by have := hg 18 _ rfl; simpa [cellsInt, cellsRatio, cells_sl0, cells_sl1, cells_sl2, cells_sl3, cells_sl4, Value.cells] using this
    rw [show ys[18]? = some (ys[18]'(by rw [hyl]; decide)) from List.getElem?_eq_getElem _] at f18
    obtain ⟨u19, e19, _, w19⟩ := DataW.trod_int Try.underlying3 f18
    obtain rfl : c19 = .int .i64 u19 := by simpa using e19
    have f19 : DataW.trod enc Try.prog W base sp held n 3 [c20] = ys[19]? := by have := hg 19 _ rfl; simpa [cellsInt, cellsRatio, cells_sl0, cells_sl1, cells_sl2, cells_sl3, cells_sl4, Value.cells] using this
    rw [show ys[19]? = some (ys[19]'(by rw [hyl]; decide)) from List.getElem?_eq_getElem _] at f19
    obtain ⟨u20, e20, _, w20⟩ := DataW.trod_int Try.underlying3 f19
    obtain rfl : c20 = .int .i64 u20 := by simpa using e20
    have f20 : DataW.trod enc Try.prog W base sp held n 3 [c21] = ys[20]? := by have := hg 20 _ rfl; simpa [cellsInt, cellsRatio, cells_sl0, cells_sl1, cells_sl2, cells_sl3, cells_sl4, Value.cells] using this
    rw [show ys[20]? = some (ys[20]'(by rw [hyl]; decide)) from List.getElem?_eq_getElem _] at f20
    obtain ⟨u21, e21, _, w21⟩ := DataW.trod_int Try.underlying3 f20
    obtain rfl : c21 = .int .i64 u21 := by simpa using e21
    have f21 : DataW.trod enc Try.prog W base sp held n 28 [c22] = ys[21]? := by have := hg 21 _ rfl; simpa [cellsInt, cellsRatio, cells_sl0, cells_sl1, cells_sl2, cells_sl3, cells_sl4, Value.cells] using this
    rw [show ys[21]? = some (ys[21]'(by rw [hyl]; decide)) from List.getElem?_eq_getElem _] at f21
    obtain ⟨a22, l22, k22, rfl⟩ := slice_of Try.underlying28 f21
    obtain ⟨z22, w22⟩ := open_Tiers ⟨_, f21⟩
    exact ⟨⟨u0, z1, u2, u3, z4, z5, z6, u7, u8, u9, u10, u11, u12, u13, u14, u15, u16, u17, z18, u19, u20, u21, z22⟩, ⟨a1, l1, k1, a4, l4, k4, a5, l5, k5, a6, l6, k6, a18, l18, k18, a22, l22, k22⟩, rfl, ⟨in_i64 w0, in_i64 w2, in_i64 w3, in_i64 w7, in_i64 w8, in_i64 w9, in_i64 w10, in_i64 w11, in_i64 w12, in_i64 w13, in_i64 w14, in_i64 w15, in_i64 w16, in_i64 w17, in_i64 w19, in_i64 w20, in_i64 w21, w1, w4, w5, w6, w18, w22⟩⟩

end Go.Proofs.Ytnjckaifgmliaaa

namespace Go.Proofs.Ytnjckaifgmliaaa.setupCuts
open Go.ChangeShapes Go.WideShapes Go.ChangeAt Go.RowKit Lu

set_option maxRecDepth 100000 in
theorem lifted (os : Os) (started : os.Started) (H : Type) (enc : TypeId × Value → H) :
    ReturnsInHanded {} Try.checked os 6 .any (Rows.setupCutsSpec.pre6 enc Try.prog Try.f6 Rows.setupCutsRow.domain false) (Rows.setupCutsSpec.post enc Try.prog Try.f6 false true false false) := by
  refine returnsInHanded_of_change (C := Try.checked) own started (by kernel_rfl) Try.func6
    (ChangeSpec.witness6 (enc := enc) (C := Try.checked) false ⟨#[], #[.agg #[.int .i64 0, .slice none 0 0, .int .i64 0, .int .i64 0, .slice none 0 0, .slice none 0 0, .slice none 0 0, .int .i64 0, .int .i64 0, .int .i64 0, .int .i64 0, .int .i64 0, .int .i64 0, .int .i64 0, .int .i64 0, .int .i64 0, .int .i64 0, .int .i64 0, .slice none 0 0, .int .i64 0, .int .i64 0, .int .i64 0, .slice none 0 0], .int .u16 0, .int .i64 0], []⟩ 8 (by kernel_rfl) (by kernel_rfl) (by kernel_rfl) (by kernel_rfl)) ?_
  intro W base args ds gs before hval0 hW hcnd _
  have hval : ∀ (j : Nat) t v, Try.f6.params[j]? = some t → args[j]? = some v → Value.okWide Try.prog W .any base t v := hval0
  have hW' := hW
  obtain ⟨p, q, hA0, hV, rfl, hfz, hnd⟩ := hW
  have hA : DataW.TrodAll enc Try.prog W 0 (fun _ => true) true Try.f6.params.toList args.toList ds p := hA0
  rw [Try.params6] at hA hval
  obtain ⟨v0, vs0, d0, ds0, p0, q0, hargs, rfl, rfl, h0, r0⟩ := trodAll_cons hA
  obtain ⟨v1, vs1, d1, ds1, p1, q1, rfl, rfl, rfl, h1, r1⟩ := trodAll_cons r0
  obtain ⟨v2, vs2, d2, ds2, p2, q2, rfl, rfl, rfl, h2, r2⟩ := trodAll_cons r1
  obtain ⟨rfl, rfl, rfl⟩ := trodAll_nil r2
  obtain rfl : args = #[v0, v1, v2] := by cases args; simp_all
  obtain ⟨rfl, rfl⟩ := trodVars_none hV
  have k0 := h0
  have lt0 : ∀ x ∈ p0, x.block < W.heap.size := by obtain ⟨m, hm⟩ := k0; exact DataW.trod_lt m _ _ _ hm
  obtain ⟨s0, q0, rfl, w0⟩ := open_Setup (hval 0 30 v0 rfl rfl) h0
  have k1 := h1
  have lt1 : ∀ x ∈ p1, x.block < W.heap.size := by obtain ⟨m, hm⟩ := k1; exact DataW.trod_lt m _ _ _ hm
  obtain ⟨a1, rfl, _, _, w1⟩ := open_int Try.underlying41 (hval 1 41 v1 rfl rfl) h1
  have k2 := h2
  have lt2 : ∀ x ∈ p2, x.block < W.heap.size := by obtain ⟨m, hm⟩ := k2; exact DataW.trod_lt m _ _ _ hm
  obtain ⟨a2, rfl, _, _, w2⟩ := open_int Try.underlying3 (hval 2 3 v2 rfl rfl) h2
  clear hA0 hval0
  refine (setupCuts_walk s0 q0 a1 a2 W w0 (in_u16 w1) (in_i64 w2)).mono fun e W' ⟨he, bel⟩ => ?_
  subst he
  exact ⟨_, rfl, _, _, _, [], _, [], hW', trodAll_mk1 (shut_bool Try.underlying4 _), (trodAll_cons_mk (Below.trod laidOut (by kernel_rfl) (of_decide_eq_true (by kernel_rfl)) k0 bel lt0) (trodAll_cons_mk (Below.trod laidOut (by kernel_rfl) (of_decide_eq_true (by kernel_rfl)) k1 bel lt1) (trodAll_cons_mk (Below.trod laidOut (by kernel_rfl) (of_decide_eq_true (by kernel_rfl)) k2 bel lt2) trodAll_mk0))), rfl, bel.frame _, fun h => by cases h⟩

theorem over : Rows.setupCutsRow.holds Try.pinned (OpenSpec.ofChange Rows.setupCutsSpec) :=
  OpenClaim.holds_of_wide 6 Try.f6 rfl rfl rfl rfl rfl rfl rfl ⟨rfl, rfl, rfl, rfl, rfl⟩ rfl rfl rfl rfl rfl (by kernel_rfl) Try.func6 (by kernel_rfl)
    (of_decide_eq_true (by kernel_rfl)) (by unfold Func.isWrapper; first | (rw [if_pos (by decide +kernel)]; kernel_rfl) | (rw [if_neg (by decide +kernel)]; exact ⟨rfl, rfl⟩))
    (fun os started H enc _ => lifted os started H enc)

/-- THE STATEMENT. -/
theorem proved : Rows.SetupCutsSaid := over
end Go.Proofs.Ytnjckaifgmliaaa.setupCuts
