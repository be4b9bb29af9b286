/- THE WALK of PayTiers: it returns true, and turns nothing that was there. -/
import Derived.Test.YtjcfflpiajefmaaPayMain
set_option linter.unusedSimpArgs false
set_option linter.unusedVariables false
namespace Go.Proofs.Ytjcfflpiajefmaa
open Go.RowKit Lu

section
variable {s : Setup} {worker el tier el2 tier2 x0 x1 x2 x3 x4 x5 x6 c0 c1 c2 c3 c4 c5 c6 d0 d1 d2 d3 d4 d5 d6 b m g er b2 m2 g2 er2 rate rate2 : Int}
theorem PayMain.alike (h : PayMain s worker el tier x0 x1 x2 x3 x4 x5 x6 c0 c1 c2 c3 c4 c5 c6 b m g er rate) (k : PayMain s worker el2 tier2 x0 x1 x2 x3 x4 x5 x6 d0 d1 d2 d3 d4 d5 d6 b2 m2 g2 er2 rate2) : c1 = d1 ∧ c2 = d2 ∧ c3 = d3 ∧ c4 = d4 ∧ c5 = d5 ∧ c6 = d6 := by
  have hr : rate2 = rate := k.rt.symm.trans h.rt
  subst hr
  exact ⟨h.k1.symm.trans k.k1, h.k2.symm.trans k.k2, h.k3.symm.trans k.k3, h.k4.symm.trans k.k4, h.k5.symm.trans k.k5, h.k6.symm.trans k.k6⟩
end
def wantP (s : Setup) (n tier : Int) : Int := if 0 ≤ tier ∧ tier < s.tiers.length then n * (s.tiers.getD tier.toNat (0, 0)).2 else 0


set_option maxRecDepth 100000 in
set_option maxHeartbeats 4000000 in
theorem payTiers_walk (s : Setup) (q : Slices) (worker x0 x1 x2 x3 x4 x5 x6 el tier : Int) (w : World) (h : SetupIs w s q) (_hw : In worker) (_hx0 : In x0) (_hx1 : In x1) (_hx2 : In x2) (_hx3 : In x3) (_hx4 : In x4) (_hx5 : In x5) (_hx6 : In x6) (he : 0 ≤ el ∧ el ≤ 4294967295) (_ht : In tier) :
    Calls Try.prog 8 #[.agg #[.int .i64 s.places, .slice q.wa q.wl q.wc, .int .i64 s.pn, .int .i64 s.pd, .slice q.ea q.el q.ec, .slice q.ca q.cl q.cc, .slice q.ga q.gl q.gc, .int .i64 s.allow, .int .i64 s.unit, .int .i64 s.cap, .int .i64 s.paidBreak, .int .i64 s.autoAfter, .int .i64 s.autoBreak, .int .i64 s.dayReg, .int .i64 s.dayOver, .int .i64 s.weekReg, .int .i64 s.nightFrom, .int .i64 s.nightTo, .slice q.ra q.rl q.rc, .int .i64 s.diff, .int .i64 s.least, .int .i64 s.fault, .slice q.ta q.tl q.tc], .int .i64 worker, .agg #[.int .i64 x0, .int .i64 x1, .int .i64 x2, .int .i64 x3, .int .i64 x4, .int .i64 x5, .int .i64 x6], .int .u32 el, .int .i64 tier] w fun e w' => e = .returned (.bool true) ∧ Below w.heap.size w w' := by
  clear _hx0 _hx1 _hx2 _hx3 _hx4 _hx5 _hx6
  obtain ⟨f, hf⟩ : ∃ f, fairP s worker [x0, x1, x2, x3, x4, x5, x6] = f := ⟨_, rfl⟩
  have HF := Lib.hid hf
  clear hf
  have hb : ((w.alloc (.cells #[.int .i64 s.places, .slice q.wa q.wl q.wc, .int .i64 s.pn, .int .i64 s.pd, .slice q.ea q.el q.ec, .slice q.ca q.cl q.cc, .slice q.ga q.gl q.gc, .int .i64 s.allow, .int .i64 s.unit, .int .i64 s.cap, .int .i64 s.paidBreak, .int .i64 s.autoAfter, .int .i64 s.autoBreak, .int .i64 s.dayReg, .int .i64 s.dayOver, .int .i64 s.weekReg, .int .i64 s.nightFrom, .int .i64 s.nightTo, .slice q.ra q.rl q.rc, .int .i64 s.diff, .int .i64 s.least, .int .i64 s.fault, .slice q.ta q.tl q.tc] 30)).alloc (.cells #[.int .i64 x0, .int .i64 x1, .int .i64 x2, .int .i64 x3, .int .i64 x4, .int .i64 x5, .int .i64 x6] 31)).heap[w.heap.size]? = some (.cells #[.int .i64 s.places, .slice q.wa q.wl q.wc, .int .i64 s.pn, .int .i64 s.pd, .slice q.ea q.el q.ec, .slice q.ca q.cl q.cc, .slice q.ga q.gl q.gc, .int .i64 s.allow, .int .i64 s.unit, .int .i64 s.cap, .int .i64 s.paidBreak, .int .i64 s.autoAfter, .int .i64 s.autoBreak, .int .i64 s.dayReg, .int .i64 s.dayOver, .int .i64 s.weekReg, .int .i64 s.nightFrom, .int .i64 s.nightTo, .slice q.ra q.rl q.rc, .int .i64 s.diff, .int .i64 s.least, .int .i64 s.fault, .slice q.ta q.tl q.tc] 30) := box_keep (B := w.heap.size + 1) (by go_grown) (box_new w _ rfl _ _) (by omega)
  have hs : ((w.alloc (.cells #[.int .i64 s.places, .slice q.wa q.wl q.wc, .int .i64 s.pn, .int .i64 s.pd, .slice q.ea q.el q.ec, .slice q.ca q.cl q.cc, .slice q.ga q.gl q.gc, .int .i64 s.allow, .int .i64 s.unit, .int .i64 s.cap, .int .i64 s.paidBreak, .int .i64 s.autoAfter, .int .i64 s.autoBreak, .int .i64 s.dayReg, .int .i64 s.dayOver, .int .i64 s.weekReg, .int .i64 s.nightFrom, .int .i64 s.nightTo, .slice q.ra q.rl q.rc, .int .i64 s.diff, .int .i64 s.least, .int .i64 s.fault, .slice q.ta q.tl q.tc] 30)).alloc (.cells #[.int .i64 x0, .int .i64 x1, .int .i64 x2, .int .i64 x3, .int .i64 x4, .int .i64 x5, .int .i64 x6] 31)).heap[w.heap.size + 1]? = some (.cells #[.int .i64 x0, .int .i64 x1, .int .i64 x2, .int .i64 x3, .int .i64 x4, .int .i64 x5, .int .i64 x6] 31) := box_new _ _ (by simp) _ _
  have B0 : Below w.heap.size w ((w.alloc (.cells #[.int .i64 s.places, .slice q.wa q.wl q.wc, .int .i64 s.pn, .int .i64 s.pd, .slice q.ea q.el q.ec, .slice q.ca q.cl q.cc, .slice q.ga q.gl q.gc, .int .i64 s.allow, .int .i64 s.unit, .int .i64 s.cap, .int .i64 s.paidBreak, .int .i64 s.autoAfter, .int .i64 s.autoBreak, .int .i64 s.dayReg, .int .i64 s.dayOver, .int .i64 s.weekReg, .int .i64 s.nightFrom, .int .i64 s.nightTo, .slice q.ra q.rl q.rc, .int .i64 s.diff, .int .i64 s.least, .int .i64 s.fault, .slice q.ta q.tl q.tc] 30)).alloc (.cells #[.int .i64 x0, .int .i64 x1, .int .i64 x2, .int .i64 x3, .int .i64 x4, .int .i64 x5, .int .i64 x6] 31)) := by go_grown
  have z0 : w.heap.size + 1 < ((w.alloc (.cells #[.int .i64 s.places, .slice q.wa q.wl q.wc, .int .i64 s.pn, .int .i64 s.pd, .slice q.ea q.el q.ec, .slice q.ca q.cl q.cc, .slice q.ga q.gl q.gc, .int .i64 s.allow, .int .i64 s.unit, .int .i64 s.cap, .int .i64 s.paidBreak, .int .i64 s.autoAfter, .int .i64 s.autoBreak, .int .i64 s.dayReg, .int .i64 s.dayOver, .int .i64 s.weekReg, .int .i64 s.nightFrom, .int .i64 s.nightTo, .slice q.ra q.rl q.rc, .int .i64 s.diff, .int .i64 s.least, .int .i64 s.fault, .slice q.ta q.tl q.tc] 30)).alloc (.cells #[.int .i64 x0, .int .i64 x1, .int .i64 x2, .int .i64 x3, .int .i64 x4, .int .i64 x5, .int .i64 x6] 31)).heap.size := by simp
  go_enter Try.func8, Try.ntmps8
  go_wp2_with fail
  refine (awake19 _).mono ?_
  rintro e1 w1 ⟨rfl, k1⟩
  replace hb := box_keep k1 hb (by omega)
  replace hs := box_keep k1 hs (by omega)
  replace B0 := B0.trans (k1.mono (by omega))
  replace z0 := Nat.lt_of_lt_of_le z0 k1.size
  clear k1
  go_wp2_with (first | (refine wpList_load_box 30 (.tmp 5) rfl rfl (w.heap.size) rfl 30 #[.int .i64 s.places, .slice q.wa q.wl q.wc, .int .i64 s.pn, .int .i64 s.pd, .slice q.ea q.el q.ec, .slice q.ca q.cl q.cc, .slice q.ga q.gl q.gc, .int .i64 s.allow, .int .i64 s.unit, .int .i64 s.cap, .int .i64 s.paidBreak, .int .i64 s.autoAfter, .int .i64 s.autoBreak, .int .i64 s.dayReg, .int .i64 s.dayOver, .int .i64 s.weekReg, .int .i64 s.nightFrom, .int .i64 s.nightTo, .slice q.ra q.rl q.rc, .int .i64 s.diff, .int .i64 s.least, .int .i64 s.fault, .slice q.ta q.tl q.tc] hb setup_big ?_) | (refine wpList_load_box 31 (.tmp 7) rfl rfl (w.heap.size + 1) rfl 31 #[.int .i64 x0, .int .i64 x1, .int .i64 x2, .int .i64 x3, .int .i64 x4, .int .i64 x5, .int .i64 x6] hs seven_big ?_))
  refine (law_fair s q worker x0 x1 x2 x3 x4 x5 x6 f _ (h.below B0) HF.out).mono ?_
  rintro e2 w2 ⟨rfl, k2⟩
  replace hb := box_keep k2 hb (by omega)
  replace hs := box_keep k2 hs (by omega)
  replace B0 := B0.trans (k2.mono (by omega))
  replace z0 := Nat.lt_of_lt_of_le z0 k2.size
  clear k2
  cases f
  · go_wp2_with fail
    go_ret
    exact ⟨rfl, B0⟩
  · obtain ⟨c0, c1, c2, c3, c4, c5, c6, b, m, g, er, hp⟩ := payP_shape s worker (el % 604801) tier [x0, x1, x2, x3, x4, x5, x6]
    obtain ⟨d0, d1, d2, d3, d4, d5, d6, b2, m2, g2, er2, hp2⟩ := payP_shape s worker (el % 604801) (-1) [x0, x1, x2, x3, x4, x5, x6]
    have hfr := fair_of HF.out
    obtain ⟨rate, M⟩ := payMain hfr hp
    obtain ⟨rate2, M2⟩ := payMain hfr hp2
    obtain ⟨rfl, rfl, rfl, rfl, rfl, rfl⟩ := M.alike M2
    obtain rfl := M.ez
    obtain rfl := M.cz
    obtain rfl := M2.ez
    obtain rfl := M2.cz
    have hn : 0 ≤ el % 604801 ∧ el % 604801 ≤ 604800 := by omega
    have hn0 : secP (el % 604801) = el % 604801 := secP_same hn.1 hn.2
    have hb20 : b2 = 0 := by rw [← M2.bn, if_neg (by omega)]
    subst hb20
    have hbn := M.bn
    rw [hn0] at hbn
    have hb0 := M.bonus
    have htl := h.tiers.1
    have hti := M.ok.tiers
    have htc := h.tiers.2.2.2
    have HP := Lib.hid hp
    have HP2 := Lib.hid hp2
    clear hp hp2 M M2 hfr hn0
    generalize hnn : el % 604801 = n at *
    have HNN := Lib.hid hnn
    clear hnn
    have hq := fun W => run_eql_seven W 0 c1 c2 c3 c4 c5 c6 0 c1 c2 c3 c4 c5 c6
    rw [eq7_same] at hq
    have cut : ∀ want : Int, (if 0 ≤ tier ∧ tier < s.tiers.length then n * (s.tiers.getD tier.toNat (0, 0)).2 else 0) = want → 0 ≤ want ∧ want ≤ 60480000000 ∧ 3600 * b - want ≤ 1800 ∧ want - 3600 * b < 1800 := by
      intro want hw
      by_cases hc : 0 ≤ tier ∧ tier < s.tiers.length
      · rw [if_pos hc] at hw hbn
        rw [hw] at hbn
        have := halfP_near want 3600 (by decide)
        rw [hbn] at this
        have hr := mul_range hn (hti (s.tiers.getD tier.toNat (0, 0)) (getD_mem2 (by omega)))
        rw [hw] at hr
        omega
      · rw [if_neg hc] at hw hbn
        omega
    have HT := Lib.hid htc
    have HCUT := Lib.hid cut
    have HTI := Lib.hid hti
    clear htc cut hti hbn
    go_wp2_with (first | (refine wpList_load_box 30 (.tmp 5) rfl rfl (w.heap.size) rfl 30 #[.int .i64 s.places, .slice q.wa q.wl q.wc, .int .i64 s.pn, .int .i64 s.pd, .slice q.ea q.el q.ec, .slice q.ca q.cl q.cc, .slice q.ga q.gl q.gc, .int .i64 s.allow, .int .i64 s.unit, .int .i64 s.cap, .int .i64 s.paidBreak, .int .i64 s.autoAfter, .int .i64 s.autoBreak, .int .i64 s.dayReg, .int .i64 s.dayOver, .int .i64 s.weekReg, .int .i64 s.nightFrom, .int .i64 s.nightTo, .slice q.ra q.rl q.rc, .int .i64 s.diff, .int .i64 s.least, .int .i64 s.fault, .slice q.ta q.tl q.tc] hb setup_big ?_) | (refine wpList_load_box 31 (.tmp 7) rfl rfl (w.heap.size + 1) rfl 31 #[.int .i64 x0, .int .i64 x1, .int .i64 x2, .int .i64 x3, .int .i64 x4, .int .i64 x5, .int .i64 x6] hs seven_big ?_))
    rw [HNN.out]
    refine (pay_Of_is s q worker x0 x1 x2 x3 x4 x5 x6 n tier 0 c1 c2 c3 c4 c5 c6 b m g 0 _ (h.below B0) HP.out).mono ?_
    rintro e3 w3 ⟨rfl, k3⟩
    replace hb := box_keep k3 hb (by omega)
    replace hs := box_keep k3 hs (by omega)
    replace B0 := B0.trans (k3.mono (by omega))
    replace z0 := Nat.lt_of_lt_of_le z0 k3.size
    clear k3
    have ha : (w3.alloc (.cells #[.int .i64 0, .int .i64 c1, .int .i64 c2, .int .i64 c3, .int .i64 c4, .int .i64 c5, .int .i64 c6] 31)).heap[w3.heap.size]? = some (.cells #[.int .i64 0, .int .i64 c1, .int .i64 c2, .int .i64 c3, .int .i64 c4, .int .i64 c5, .int .i64 c6] 31) := box_new _ _ rfl _ _
    have hk : Below w3.heap.size w3 (w3.alloc (.cells #[.int .i64 0, .int .i64 c1, .int .i64 c2, .int .i64 c3, .int .i64 c4, .int .i64 c5, .int .i64 c6] 31)) := by go_grown
    have za3 : w.heap.size + 1 < w3.heap.size := z0
    replace hb := box_keep hk hb (by omega)
    replace hs := box_keep hk hs (by omega)
    replace B0 := B0.trans (hk.mono (by omega))
    replace z0 := Nat.lt_of_lt_of_le z0 hk.size
    clear hk
    go_wp2_with (first | (refine wpList_load_box 30 (.tmp 5) rfl rfl (w.heap.size) rfl 30 #[.int .i64 s.places, .slice q.wa q.wl q.wc, .int .i64 s.pn, .int .i64 s.pd, .slice q.ea q.el q.ec, .slice q.ca q.cl q.cc, .slice q.ga q.gl q.gc, .int .i64 s.allow, .int .i64 s.unit, .int .i64 s.cap, .int .i64 s.paidBreak, .int .i64 s.autoAfter, .int .i64 s.autoBreak, .int .i64 s.dayReg, .int .i64 s.dayOver, .int .i64 s.weekReg, .int .i64 s.nightFrom, .int .i64 s.nightTo, .slice q.ra q.rl q.rc, .int .i64 s.diff, .int .i64 s.least, .int .i64 s.fault, .slice q.ta q.tl q.tc] hb setup_big ?_) | (refine wpList_load_box 31 (.tmp 7) rfl rfl (w.heap.size + 1) rfl 31 #[.int .i64 x0, .int .i64 x1, .int .i64 x2, .int .i64 x3, .int .i64 x4, .int .i64 x5, .int .i64 x6] hs seven_big ?_))
    refine (pay_Of_is s q worker x0 x1 x2 x3 x4 x5 x6 n (-1) 0 c1 c2 c3 c4 c5 c6 0 m2 g2 0 _ (h.below B0) HP2.out).mono ?_
    rintro e4 w4 ⟨rfl, k4⟩
    replace hb := box_keep k4 hb (by omega)
    replace hs := box_keep k4 hs (by omega)
    replace B0 := B0.trans (k4.mono (by omega))
    replace z0 := Nat.lt_of_lt_of_le z0 k4.size
    replace ha := box_keep k4 ha (by simp)
    have z34 : w3.heap.size < w4.heap.size := by have := k4.size; simp at this; omega
    clear k4
    have ha4 : (w4.alloc (.cells #[.int .i64 0, .int .i64 c1, .int .i64 c2, .int .i64 c3, .int .i64 c4, .int .i64 c5, .int .i64 c6] 31)).heap[w4.heap.size]? = some (.cells #[.int .i64 0, .int .i64 c1, .int .i64 c2, .int .i64 c3, .int .i64 c4, .int .i64 c5, .int .i64 c6] 31) := box_new _ _ rfl _ _
    have hk4 : Below w4.heap.size w4 (w4.alloc (.cells #[.int .i64 0, .int .i64 c1, .int .i64 c2, .int .i64 c3, .int .i64 c4, .int .i64 c5, .int .i64 c6] 31)) := by go_grown
    have za4 : w.heap.size + 1 < w4.heap.size := z0
    replace hb := box_keep hk4 hb (by omega)
    replace hs := box_keep hk4 hs (by omega)
    replace B0 := B0.trans (hk4.mono (by omega))
    replace z0 := Nat.lt_of_lt_of_le z0 hk4.size
    replace ha := box_keep hk4 ha (by omega)
    clear hk4 hs
    have c22 : (w4.alloc (.cells #[.int .i64 0, .int .i64 c1, .int .i64 c2, .int .i64 c3, .int .i64 c4, .int .i64 c5, .int .i64 c6] 31)).cell? ⟨w.heap.size, 22, none⟩ = some (.slice q.ta q.tl q.tc) := by rw [cell_of_block hb]; rfl
    clear hb
    by_cases t0 : tier < 0
    · obtain ⟨u1, u2, u3, u4⟩ := HCUT.out 0 (by rw [if_neg (by omega)])
      obtain rfl : b = 0 := by omega
      have g0 : decide (0 ≤ tier) = false := by simp; omega
      go_wp2_with (first | (refine wpList_load_box 31 (.tmp 13) rfl rfl (w3.heap.size) rfl 31 #[.int .i64 0, .int .i64 c1, .int .i64 c2, .int .i64 c3, .int .i64 c4, .int .i64 c5, .int .i64 c6] ha seven_big ?_) | (refine wpList_load_box 31 (.tmp 18) rfl rfl (w4.heap.size) rfl 31 #[.int .i64 0, .int .i64 c1, .int .i64 c2, .int .i64 c3, .int .i64 c4, .int .i64 c5, .int .i64 c6] ha4 seven_big ?_))
      go_ret
      exact ⟨rfl, B0⟩
    · have g0 : decide (0 ≤ tier) = true := by simp; omega
      by_cases t1 : tier < q.tl
      · obtain ⟨tb, toff, hta, htb, htc⟩ := HT.out.resolve_left (by omega)
        have d1 := keepC B0 (htc tier.toNat (by omega)).2 htb
        have e1 := HTI.out (s.tiers.getD tier.toNat (0, 0)) (getD_mem2 (by omega))
        have hr := mul_range hn e1
        have hcut := HCUT.out _ (if_pos ⟨by omega, by omega⟩)
        have htb2 : tb < w4.heap.size := by have := B0.size; omega
        generalize (s.tiers.getD tier.toNat (0, 0)).2 = bo at *
        obtain ⟨u1, u2, u3, u4⟩ := hcut
        rw [hta] at c22
        have HTA := Lib.hid hta
        have HTC := Lib.hid htc
        clear hta htc
        have g3 : (0 : Int) ≤ tier := by omega
        have g4 : tier < (q.tl : Int) := by omega
        go_wp2_with (first | (refine wpList_load_box 31 (.tmp 13) rfl rfl (w3.heap.size) rfl 31 #[.int .i64 0, .int .i64 c1, .int .i64 c2, .int .i64 c3, .int .i64 c4, .int .i64 c5, .int .i64 c6] ha seven_big ?_) | (refine wpList_load_box 31 (.tmp 18) rfl rfl (w4.heap.size) rfl 31 #[.int .i64 0, .int .i64 c1, .int .i64 c2, .int .i64 c3, .int .i64 c4, .int .i64 c5, .int .i64 c6] ha4 seven_big ?_))
        go_ret
        exact ⟨rfl, B0⟩
      · obtain ⟨u1, u2, u3, u4⟩ := HCUT.out 0 (by rw [if_neg (by omega)])
        obtain rfl : b = 0 := by omega
        have g1 : decide (tier < (q.tl : Int)) = false := by simp; omega
        go_wp2_with (first | (refine wpList_load_box 31 (.tmp 13) rfl rfl (w3.heap.size) rfl 31 #[.int .i64 0, .int .i64 c1, .int .i64 c2, .int .i64 c3, .int .i64 c4, .int .i64 c5, .int .i64 c6] ha seven_big ?_) | (refine wpList_load_box 31 (.tmp 18) rfl rfl (w4.heap.size) rfl 31 #[.int .i64 0, .int .i64 c1, .int .i64 c2, .int .i64 c3, .int .i64 c4, .int .i64 c5, .int .i64 c6] ha4 seven_big ?_))
        go_ret
        exact ⟨rfl, B0⟩

end Go.Proofs.Ytjcfflpiajefmaa
