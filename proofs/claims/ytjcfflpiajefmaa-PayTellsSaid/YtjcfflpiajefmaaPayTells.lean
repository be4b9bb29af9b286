/- THE WALK of PayTells: it returns true, and turns nothing that was there. -/
import Derived.Test.YtjcfflpiajefmaaFair
set_option linter.unusedSimpArgs false
set_option linter.unusedVariables false
namespace Go.Proofs.Ytjcfflpiajefmaa
open Go.RowKit Lu

theorem pay_size11 : (Try.prog.info? 38).map (·.size) = some 11 := by kernel_rfl
set_option maxRecDepth 100000 in
set_option maxHeartbeats 4000000 in
theorem payTells_walk (s : Setup) (q : Slices) (worker x0 x1 x2 x3 x4 x5 x6 el tier : Int) (w : World) (h : SetupIs w s q) (_hw : In worker) (_hx0 : In x0) (_hx1 : In x1) (_hx2 : In x2) (_hx3 : In x3) (_hx4 : In x4) (_hx5 : In x5) (_hx6 : In x6) (_he : In el) (_ht : In tier) :
    Calls Try.prog 3 #[.agg #[.int .i64 s.places, .slice q.wa q.wl q.wc, .int .i64 s.pn, .int .i64 s.pd, .slice q.ea q.el q.ec, .slice q.ca q.cl q.cc, .slice q.ga q.gl q.gc, .int .i64 s.allow, .int .i64 s.unit, .int .i64 s.cap, .int .i64 s.paidBreak, .int .i64 s.autoAfter, .int .i64 s.autoBreak, .int .i64 s.dayReg, .int .i64 s.dayOver, .int .i64 s.weekReg, .int .i64 s.nightFrom, .int .i64 s.nightTo, .slice q.ra q.rl q.rc, .int .i64 s.diff, .int .i64 s.least, .int .i64 s.fault, .slice q.ta q.tl q.tc], .int .i64 worker, .agg #[.int .i64 x0, .int .i64 x1, .int .i64 x2, .int .i64 x3, .int .i64 x4, .int .i64 x5, .int .i64 x6], .int .i64 el, .int .i64 tier] w fun e w' => e = .returned (.bool true) ∧ Below w.heap.size w w' := by
  clear _hx0 _hx1 _hx2 _hx3 _hx4 _hx5 _hx6
  obtain ⟨c0, c1, c2, c3, c4, c5, c6, b, m, g, er, hp⟩ := payP_shape s worker el tier [x0, x1, x2, x3, x4, x5, x6]
  obtain ⟨f, hf⟩ : ∃ f, fewP s = f := ⟨_, rfl⟩
  have HP := Lib.hid hp
  have HF := Lib.hid hf
  clear hp hf
  have hb : ((w.alloc (.cells #[.int .i64 s.places, .slice q.wa q.wl q.wc, .int .i64 s.pn, .int .i64 s.pd, .slice q.ea q.el q.ec, .slice q.ca q.cl q.cc, .slice q.ga q.gl q.gc, .int .i64 s.allow, .int .i64 s.unit, .int .i64 s.cap, .int .i64 s.paidBreak, .int .i64 s.autoAfter, .int .i64 s.autoBreak, .int .i64 s.dayReg, .int .i64 s.dayOver, .int .i64 s.weekReg, .int .i64 s.nightFrom, .int .i64 s.nightTo, .slice q.ra q.rl q.rc, .int .i64 s.diff, .int .i64 s.least, .int .i64 s.fault, .slice q.ta q.tl q.tc] 30)).alloc (.cells #[.int .i64 x0, .int .i64 x1, .int .i64 x2, .int .i64 x3, .int .i64 x4, .int .i64 x5, .int .i64 x6] 31)).heap[w.heap.size]? = some (.cells #[.int .i64 s.places, .slice q.wa q.wl q.wc, .int .i64 s.pn, .int .i64 s.pd, .slice q.ea q.el q.ec, .slice q.ca q.cl q.cc, .slice q.ga q.gl q.gc, .int .i64 s.allow, .int .i64 s.unit, .int .i64 s.cap, .int .i64 s.paidBreak, .int .i64 s.autoAfter, .int .i64 s.autoBreak, .int .i64 s.dayReg, .int .i64 s.dayOver, .int .i64 s.weekReg, .int .i64 s.nightFrom, .int .i64 s.nightTo, .slice q.ra q.rl q.rc, .int .i64 s.diff, .int .i64 s.least, .int .i64 s.fault, .slice q.ta q.tl q.tc] 30) := box_keep (B := w.heap.size + 1) (by go_grown) (box_new w _ rfl _ _) (by omega)
  have hs : ((w.alloc (.cells #[.int .i64 s.places, .slice q.wa q.wl q.wc, .int .i64 s.pn, .int .i64 s.pd, .slice q.ea q.el q.ec, .slice q.ca q.cl q.cc, .slice q.ga q.gl q.gc, .int .i64 s.allow, .int .i64 s.unit, .int .i64 s.cap, .int .i64 s.paidBreak, .int .i64 s.autoAfter, .int .i64 s.autoBreak, .int .i64 s.dayReg, .int .i64 s.dayOver, .int .i64 s.weekReg, .int .i64 s.nightFrom, .int .i64 s.nightTo, .slice q.ra q.rl q.rc, .int .i64 s.diff, .int .i64 s.least, .int .i64 s.fault, .slice q.ta q.tl q.tc] 30)).alloc (.cells #[.int .i64 x0, .int .i64 x1, .int .i64 x2, .int .i64 x3, .int .i64 x4, .int .i64 x5, .int .i64 x6] 31)).heap[w.heap.size + 1]? = some (.cells #[.int .i64 x0, .int .i64 x1, .int .i64 x2, .int .i64 x3, .int .i64 x4, .int .i64 x5, .int .i64 x6] 31) := box_new _ _ (by simp) _ _
  have B0 : Below w.heap.size w ((w.alloc (.cells #[.int .i64 s.places, .slice q.wa q.wl q.wc, .int .i64 s.pn, .int .i64 s.pd, .slice q.ea q.el q.ec, .slice q.ca q.cl q.cc, .slice q.ga q.gl q.gc, .int .i64 s.allow, .int .i64 s.unit, .int .i64 s.cap, .int .i64 s.paidBreak, .int .i64 s.autoAfter, .int .i64 s.autoBreak, .int .i64 s.dayReg, .int .i64 s.dayOver, .int .i64 s.weekReg, .int .i64 s.nightFrom, .int .i64 s.nightTo, .slice q.ra q.rl q.rc, .int .i64 s.diff, .int .i64 s.least, .int .i64 s.fault, .slice q.ta q.tl q.tc] 30)).alloc (.cells #[.int .i64 x0, .int .i64 x1, .int .i64 x2, .int .i64 x3, .int .i64 x4, .int .i64 x5, .int .i64 x6] 31)) := by go_grown
  have z0 : w.heap.size + 1 < ((w.alloc (.cells #[.int .i64 s.places, .slice q.wa q.wl q.wc, .int .i64 s.pn, .int .i64 s.pd, .slice q.ea q.el q.ec, .slice q.ca q.cl q.cc, .slice q.ga q.gl q.gc, .int .i64 s.allow, .int .i64 s.unit, .int .i64 s.cap, .int .i64 s.paidBreak, .int .i64 s.autoAfter, .int .i64 s.autoBreak, .int .i64 s.dayReg, .int .i64 s.dayOver, .int .i64 s.weekReg, .int .i64 s.nightFrom, .int .i64 s.nightTo, .slice q.ra q.rl q.rc, .int .i64 s.diff, .int .i64 s.least, .int .i64 s.fault, .slice q.ta q.tl q.tc] 30)).alloc (.cells #[.int .i64 x0, .int .i64 x1, .int .i64 x2, .int .i64 x3, .int .i64 x4, .int .i64 x5, .int .i64 x6] 31)).heap.size := by simp
  go_enter Try.func3, Try.ntmps3
  go_wp2_with fail
  refine (awake19 _).mono ?_
  rintro e1 w1 ⟨rfl, k1⟩
  replace hb := box_keep k1 hb (by omega)
  replace hs := box_keep k1 hs (by omega)
  replace B0 := B0.trans (k1.mono (by omega))
  replace z0 := Nat.lt_of_lt_of_le z0 k1.size
  clear k1
  go_wp2_with (refine wpList_load_box 30 (.tmp 5) rfl rfl (w.heap.size) rfl 30 #[.int .i64 s.places, .slice q.wa q.wl q.wc, .int .i64 s.pn, .int .i64 s.pd, .slice q.ea q.el q.ec, .slice q.ca q.cl q.cc, .slice q.ga q.gl q.gc, .int .i64 s.allow, .int .i64 s.unit, .int .i64 s.cap, .int .i64 s.paidBreak, .int .i64 s.autoAfter, .int .i64 s.autoBreak, .int .i64 s.dayReg, .int .i64 s.dayOver, .int .i64 s.weekReg, .int .i64 s.nightFrom, .int .i64 s.nightTo, .slice q.ra q.rl q.rc, .int .i64 s.diff, .int .i64 s.least, .int .i64 s.fault, .slice q.ta q.tl q.tc] hb setup_big ?_)
  refine (ref7_Few s q f _ (h.below B0) HF.out).mono ?_
  rintro e2 w2 ⟨rfl, k2⟩
  replace hb := box_keep k2 hb (by omega)
  replace hs := box_keep k2 hs (by omega)
  replace B0 := B0.trans (k2.mono (by omega))
  replace z0 := Nat.lt_of_lt_of_le z0 k2.size
  clear k2
  cases f
  · go_wp2_with fail
    go_ret
    exact ⟨rfl, B0⟩
  · go_wp2_with (first | (refine wpList_load_box 30 (.tmp 5) rfl rfl (w.heap.size) rfl 30 #[.int .i64 s.places, .slice q.wa q.wl q.wc, .int .i64 s.pn, .int .i64 s.pd, .slice q.ea q.el q.ec, .slice q.ca q.cl q.cc, .slice q.ga q.gl q.gc, .int .i64 s.allow, .int .i64 s.unit, .int .i64 s.cap, .int .i64 s.paidBreak, .int .i64 s.autoAfter, .int .i64 s.autoBreak, .int .i64 s.dayReg, .int .i64 s.dayOver, .int .i64 s.weekReg, .int .i64 s.nightFrom, .int .i64 s.nightTo, .slice q.ra q.rl q.rc, .int .i64 s.diff, .int .i64 s.least, .int .i64 s.fault, .slice q.ta q.tl q.tc] hb setup_big ?_) | (refine wpList_load_box 31 (.tmp 7) rfl rfl (w.heap.size + 1) rfl 31 #[.int .i64 x0, .int .i64 x1, .int .i64 x2, .int .i64 x3, .int .i64 x4, .int .i64 x5, .int .i64 x6] hs seven_big ?_))
    refine (pay_Of_is s q worker x0 x1 x2 x3 x4 x5 x6 el tier c0 c1 c2 c3 c4 c5 c6 b m g er _ (h.below B0) HP.out).mono ?_
    rintro e3 w3 ⟨rfl, k3⟩
    replace hb := box_keep k3 hb (by omega)
    replace hs := box_keep k3 hs (by omega)
    replace B0 := B0.trans (k3.mono (by omega))
    replace z0 := Nat.lt_of_lt_of_le z0 k3.size
    clear k3
    have za : w.heap.size + 1 < w3.heap.size := z0
    have ha : (w3.alloc (.cells #[.int .i64 c0, .int .i64 c1, .int .i64 c2, .int .i64 c3, .int .i64 c4, .int .i64 c5, .int .i64 c6] 31)).heap[w3.heap.size]? = some (.cells #[.int .i64 c0, .int .i64 c1, .int .i64 c2, .int .i64 c3, .int .i64 c4, .int .i64 c5, .int .i64 c6] 31) := box_new _ _ rfl _ _
    have hk : Below w3.heap.size w3 (w3.alloc (.cells #[.int .i64 c0, .int .i64 c1, .int .i64 c2, .int .i64 c3, .int .i64 c4, .int .i64 c5, .int .i64 c6] 31)) := by go_grown
    replace hb := box_keep hk hb (by omega)
    replace hs := box_keep hk hs (by omega)
    replace B0 := B0.trans (hk.mono (by omega))
    replace z0 := Nat.lt_of_lt_of_le z0 hk.size
    go_wp2_with (first | (refine wpList_load_box 30 (.tmp 5) rfl rfl (w.heap.size) rfl 30 #[.int .i64 s.places, .slice q.wa q.wl q.wc, .int .i64 s.pn, .int .i64 s.pd, .slice q.ea q.el q.ec, .slice q.ca q.cl q.cc, .slice q.ga q.gl q.gc, .int .i64 s.allow, .int .i64 s.unit, .int .i64 s.cap, .int .i64 s.paidBreak, .int .i64 s.autoAfter, .int .i64 s.autoBreak, .int .i64 s.dayReg, .int .i64 s.dayOver, .int .i64 s.weekReg, .int .i64 s.nightFrom, .int .i64 s.nightTo, .slice q.ra q.rl q.rc, .int .i64 s.diff, .int .i64 s.least, .int .i64 s.fault, .slice q.ta q.tl q.tc] hb setup_big ?_) | (refine wpList_load_box 31 (.tmp 7) rfl rfl (w.heap.size + 1) rfl 31 #[.int .i64 x0, .int .i64 x1, .int .i64 x2, .int .i64 x3, .int .i64 x4, .int .i64 x5, .int .i64 x6] hs seven_big ?_))
    refine (ref19_Of_is s q worker x0 x1 x2 x3 x4 x5 x6 el tier c0 c1 c2 c3 c4 c5 c6 b m g er _ (h.below B0) HP.out).mono ?_
    rintro e4 w4 ⟨rfl, k4⟩
    replace ha := box_keep k4 ha (by simp)
    replace B0 := B0.trans (k4.mono (by omega))
    have z4 : w3.heap.size < w4.heap.size := by have := k4.size; simp at this; omega
    clear k4 hk hb hs z0
    have hq := fun W => run_eql_seven W c0 c1 c2 c3 c4 c5 c6 c0 c1 c2 c3 c4 c5 c6
    rw [eq7_same] at hq
    have hkk : Below w4.heap.size w4 (w4.alloc (.cells #[.int .i64 c0, .int .i64 c1, .int .i64 c2, .int .i64 c3, .int .i64 c4, .int .i64 c5, .int .i64 c6, .int .i64 b, .int .i64 m, .int .i64 g, .int .i64 er] 38)) := by go_grown
    replace ha := box_keep hkk ha (by omega)
    replace B0 := B0.trans (hkk.mono (by have := B0.size; omega))
    clear hkk
    go_wp2_with (first
      | (refine wpList_store_new _ _ _ rfl 38 (.tmp 17) (.tmp 40) rfl #[.int .i64 c0, .int .i64 c1, .int .i64 c2, .int .i64 c3, .int .i64 c4, .int .i64 c5, .int .i64 c6, .int .i64 b, .int .i64 m, .int .i64 g, .int .i64 er] w4.heap.size rfl rfl rfl rfl pay_size11 (by rfl) ?_)
      | (refine wpList_load_box 31 (.tmp 12) rfl rfl w3.heap.size rfl 31 #[.int .i64 c0, .int .i64 c1, .int .i64 c2, .int .i64 c3, .int .i64 c4, .int .i64 c5, .int .i64 c6] ha seven_big ?_))
    go_ret
    exact ⟨rfl, B0⟩

end Go.Proofs.Ytjcfflpiajefmaa
