/- THE WALK of WayThree: it returns true, and turns nothing that was there. -/
import Derived.Test.YtbfmkoahlnceoaaWayTurns
set_option linter.unusedSimpArgs false
set_option linter.unusedVariables false
namespace Go.Proofs.Ytbfmkoahlnceoaa
open Go.RowKit Lu

set_option maxRecDepth 100000 in
set_option maxHeartbeats 4000000 in
theorem wayThree_walk (s : Setup) (q : Slices) (w : World) (h : SetupIs w s q) :
    Calls Try.prog 5 #[.agg #[.int .i64 s.places, .slice q.wa q.wl q.wc, .int .i64 s.pn, .int .i64 s.pd, .slice q.ea q.el q.ec, .slice q.ca q.cl q.cc, .slice q.ga q.gl q.gc, .int .i64 s.allow, .int .i64 s.unit, .int .i64 s.cap, .int .i64 s.paidBreak, .int .i64 s.autoAfter, .int .i64 s.autoBreak, .int .i64 s.dayReg, .int .i64 s.dayOver, .int .i64 s.weekReg, .int .i64 s.nightFrom, .int .i64 s.nightTo, .slice q.ra q.rl q.rc, .int .i64 s.diff, .int .i64 s.least, .int .i64 s.fault, .slice q.ta q.tl q.tc]] w fun e w' => e = .returned (.bool true) ∧ Below w.heap.size w w' := by
  have hb : (w.alloc (.cells #[.int .i64 s.places, .slice q.wa q.wl q.wc, .int .i64 s.pn, .int .i64 s.pd, .slice q.ea q.el q.ec, .slice q.ca q.cl q.cc, .slice q.ga q.gl q.gc, .int .i64 s.allow, .int .i64 s.unit, .int .i64 s.cap, .int .i64 s.paidBreak, .int .i64 s.autoAfter, .int .i64 s.autoBreak, .int .i64 s.dayReg, .int .i64 s.dayOver, .int .i64 s.weekReg, .int .i64 s.nightFrom, .int .i64 s.nightTo, .slice q.ra q.rl q.rc, .int .i64 s.diff, .int .i64 s.least, .int .i64 s.fault, .slice q.ta q.tl q.tc] 30)).heap[w.heap.size]? = some (.cells #[.int .i64 s.places, .slice q.wa q.wl q.wc, .int .i64 s.pn, .int .i64 s.pd, .slice q.ea q.el q.ec, .slice q.ca q.cl q.cc, .slice q.ga q.gl q.gc, .int .i64 s.allow, .int .i64 s.unit, .int .i64 s.cap, .int .i64 s.paidBreak, .int .i64 s.autoAfter, .int .i64 s.autoBreak, .int .i64 s.dayReg, .int .i64 s.dayOver, .int .i64 s.weekReg, .int .i64 s.nightFrom, .int .i64 s.nightTo, .slice q.ra q.rl q.rc, .int .i64 s.diff, .int .i64 s.least, .int .i64 s.fault, .slice q.ta q.tl q.tc] 30) := box_new _ _ rfl _ _
  have B0 : Below w.heap.size w (w.alloc (.cells #[.int .i64 s.places, .slice q.wa q.wl q.wc, .int .i64 s.pn, .int .i64 s.pd, .slice q.ea q.el q.ec, .slice q.ca q.cl q.cc, .slice q.ga q.gl q.gc, .int .i64 s.allow, .int .i64 s.unit, .int .i64 s.cap, .int .i64 s.paidBreak, .int .i64 s.autoAfter, .int .i64 s.autoBreak, .int .i64 s.dayReg, .int .i64 s.dayOver, .int .i64 s.weekReg, .int .i64 s.nightFrom, .int .i64 s.nightTo, .slice q.ra q.rl q.rc, .int .i64 s.diff, .int .i64 s.least, .int .i64 s.fault, .slice q.ta q.tl q.tc] 30)) := by go_grown
  have z0 : w.heap.size < (w.alloc (.cells #[.int .i64 s.places, .slice q.wa q.wl q.wc, .int .i64 s.pn, .int .i64 s.pd, .slice q.ea q.el q.ec, .slice q.ca q.cl q.cc, .slice q.ga q.gl q.gc, .int .i64 s.allow, .int .i64 s.unit, .int .i64 s.cap, .int .i64 s.paidBreak, .int .i64 s.autoAfter, .int .i64 s.autoBreak, .int .i64 s.dayReg, .int .i64 s.dayOver, .int .i64 s.weekReg, .int .i64 s.nightFrom, .int .i64 s.nightTo, .slice q.ra q.rl q.rc, .int .i64 s.diff, .int .i64 s.least, .int .i64 s.fault, .slice q.ta q.tl q.tc] 30)).heap.size := by simp
  obtain ⟨f, hf⟩ : ∃ f, fewP s = f := ⟨_, rfl⟩
  have HF := Lib.hid hf
  clear hf
  go_enter Try.func5, Try.ntmps5
  go_wp2_with fail
  refine (awake09 _).mono ?_
  rintro e1 w1 ⟨rfl, k1⟩
  replace hb := box_keep k1 hb z0
  replace B0 := B0.trans (k1.mono (by omega))
  replace z0 := Nat.lt_of_lt_of_le z0 k1.size
  clear k1
  go_wp2_with (refine wpList_load_box 30 (.tmp 1) rfl rfl w.heap.size rfl 30 #[.int .i64 s.places, .slice q.wa q.wl q.wc, .int .i64 s.pn, .int .i64 s.pd, .slice q.ea q.el q.ec, .slice q.ca q.cl q.cc, .slice q.ga q.gl q.gc, .int .i64 s.allow, .int .i64 s.unit, .int .i64 s.cap, .int .i64 s.paidBreak, .int .i64 s.autoAfter, .int .i64 s.autoBreak, .int .i64 s.dayReg, .int .i64 s.dayOver, .int .i64 s.weekReg, .int .i64 s.nightFrom, .int .i64 s.nightTo, .slice q.ra q.rl q.rc, .int .i64 s.diff, .int .i64 s.least, .int .i64 s.fault, .slice q.ta q.tl q.tc] hb setup_big ?_)
  refine (ref7_Few s q f _ (h.below B0) HF.out).mono ?_
  rintro e2 w2 ⟨rfl, k2⟩
  replace hb := box_keep k2 hb z0
  replace B0 := B0.trans (k2.mono (by omega))
  replace z0 := Nat.lt_of_lt_of_le z0 k2.size
  clear k2
  cases f
  · go_wp2_with fail
    go_ret
    exact ⟨rfl, B0⟩
  obtain ⟨c, hc⟩ : ∃ c, setupP s = c := ⟨_, rfl⟩
  have HC := Lib.hid hc
  clear hc
  go_wp2_with (refine wpList_load_box 30 (.tmp 1) rfl rfl w.heap.size rfl 30 #[.int .i64 s.places, .slice q.wa q.wl q.wc, .int .i64 s.pn, .int .i64 s.pd, .slice q.ea q.el q.ec, .slice q.ca q.cl q.cc, .slice q.ga q.gl q.gc, .int .i64 s.allow, .int .i64 s.unit, .int .i64 s.cap, .int .i64 s.paidBreak, .int .i64 s.autoAfter, .int .i64 s.autoBreak, .int .i64 s.dayReg, .int .i64 s.dayOver, .int .i64 s.weekReg, .int .i64 s.nightFrom, .int .i64 s.nightTo, .slice q.ra q.rl q.rc, .int .i64 s.diff, .int .i64 s.least, .int .i64 s.fault, .slice q.ta q.tl q.tc] hb setup_big ?_)
  refine (setup_Check s q c _ (h.below B0) HC.out).mono ?_
  rintro e3 w3 ⟨rfl, k3⟩
  replace hb := box_keep k3 hb z0
  replace B0 := B0.trans (k3.mono (by omega))
  replace z0 := Nat.lt_of_lt_of_le z0 k3.size
  clear k3
  cases c
  · go_wp2_with fail
    go_ret
    exact ⟨rfl, B0⟩
  obtain ⟨P, hPl, hP, hw, hwl⟩ := waysOk HC.out
  have HPL := Lib.hid hPl
  clear hPl
  go_wp2_with (refine wpList_load_box 30 (.tmp 1) rfl rfl w.heap.size rfl 30 #[.int .i64 s.places, .slice q.wa q.wl q.wc, .int .i64 s.pn, .int .i64 s.pd, .slice q.ea q.el q.ec, .slice q.ca q.cl q.cc, .slice q.ga q.gl q.gc, .int .i64 s.allow, .int .i64 s.unit, .int .i64 s.cap, .int .i64 s.paidBreak, .int .i64 s.autoAfter, .int .i64 s.autoBreak, .int .i64 s.dayReg, .int .i64 s.dayOver, .int .i64 s.weekReg, .int .i64 s.nightFrom, .int .i64 s.nightTo, .slice q.ra q.rl q.rc, .int .i64 s.diff, .int .i64 s.least, .int .i64 s.fault, .slice q.ta q.tl q.tc] hb setup_big ?_)
  refine (way_Table_at s q P _ (h.below B0) HC.out HPL.out).mono ?_
  rintro e4 w4 ⟨o, base, rb, rfl, ht, ho1, ho2, k4⟩
  have HT := Lib.hid ht.r
  replace hb := box_keep k4 hb z0
  replace B0 := B0.trans (k4.mono (by omega))
  replace z0 := Nat.lt_of_lt_of_le z0 k4.size
  clear k4 ht ho1 ho2
  have cN : w4.cell? ⟨w.heap.size, 0, none⟩ = some (.int .i64 (P : Int)) := by rw [← HPL.out]; simp [World.cell?, hb]
  have cW : w4.cell? ⟨w.heap.size, 1, none⟩ = some (.slice q.wa q.wl q.wc) := by simp [World.cell?, hb]
  have hP0 : (0 : Int) ≤ (P : Int) := by omega
  have HD := Lib.hid (tableP_dists hw)
  have HWC := Lib.hid h.ways.2.2.2
  have HWL := Lib.hid (show q.wl = s.ways.length from h.ways.1.symm)
  obtain ⟨t, htt⟩ : ∃ t, tableP P s.ways = t := ⟨_, rfl⟩
  rw [htt] at HT HD
  clear hb htt
  have hM := metersP_nonneg hw.pos
  have hbd : ∀ a b, a < P → b < P → -1 ≤ t a b ∧ t a b ≤ 640000 := fun a b ha hb => ⟨(HD.out a b ha hb).ge, by have := HD.out.all hw ha hb; omega⟩
  have HBD := Lib.hid hbd
  clear hbd hM
  go_wp2_with fail
  refine (law9_square o P P rb _ t _ rfl hP.2 _ HT.out).mono ?_
  rintro e5 w5 ⟨rfl, rfl⟩
  go_wp2_with fail
  go_loopg [5] P (fun g i wr => ∃ a : Nat, a ≤ P ∧ g = P - a ∧ i = .int .i64 a ∧ ∃ n, wr = w5.drewN n)
  case atStart => exact ⟨0, by omega, by omega, rfl, 0, rfl⟩
  case round =>
    obtain ⟨a, ha, rfl, rfl, n, rfl⟩ := hrel
    by_cases hlta : a < P
    · have ha0 : (0 : Int) ≤ (a : Int) := by omega
      have ha1 : (a : Int) < (P : Int) := by omega
      go_wp2_with fail
      go_loopg [6] P (fun g i wr => ∃ b : Nat, b ≤ P ∧ g = P - b ∧ i = .int .i64 b ∧ ∃ n, wr = w5.drewN n)
      case atStart => exact ⟨0, by omega, by omega, rfl, n, rfl⟩
      case round =>
        obtain ⟨b, hb, rfl, rfl, n2, rfl⟩ := hrel
        by_cases hltb : b < P
        · have hb0 : (0 : Int) ≤ (b : Int) := by omega
          have hb1 : (b : Int) < (P : Int) := by omega
          go_wp2_with fail
          go_loopg [7] P (fun g i wr => ∃ c : Nat, c ≤ P ∧ g = P - c ∧ i = .int .i64 c ∧ ∃ n, wr = w5.drewN n)
          case atStart => exact ⟨0, by omega, by omega, rfl, n2, rfl⟩
          case round =>
            obtain ⟨c, hc, rfl, rfl, n3, rfl⟩ := hrel
            by_cases hltc : c < P
            · have hc0 : (0 : Int) ≤ (c : Int) := by omega
              have hc1 : (c : Int) < (P : Int) := by omega
              have c1 := HT.out.hdr a hlta
              have c2 := HT.out.hdr b hltb
              have c3 := HT.out.cell a b hlta hltb
              have c4 := HT.out.cell b c hltb hltc
              have c5 := HT.out.cell a c hlta hltc
              have h3 := (HD.out a b hlta hltb).third (HD.out b c hltb hltc) (HD.out a c hlta hltc)
              have b1 := HBD.out a b hlta hltb
              have b2 := HBD.out b c hltb hltc
              obtain ⟨x, hx⟩ : ∃ x, t a b = x := ⟨_, rfl⟩
              obtain ⟨y, hy⟩ : ∃ y, t b c = y := ⟨_, rfl⟩
              obtain ⟨z, hz⟩ : ∃ z, t a c = z := ⟨_, rfl⟩
              rw [hx] at c3 h3 b1
              rw [hy] at c4 h3 b2
              rw [hz] at c5 h3
              clear hx hy hz
              by_cases ex : 0 ≤ x
              · by_cases ey : 0 ≤ y
                · have h4 := h3 ex ey
                  have d3 : decide (z < 0) = false := by rw [decide_eq_false_iff_not]; omega
                  have d4 : decide (x + y < z) = false := by rw [decide_eq_false_iff_not]; omega
                  clear h3 h4
                  go_wp2_with fail
                  go_quiet (fail)
                  go_wp2_with fail
                  go_roundg (P - (c + 1))
                  case measure => omega
                  case rel => exact ⟨c + 1, by omega, rfl, by go_num, _, rfl⟩
                · have h3' := trivial
                  have d2 : decide (0 ≤ y) = false := by rw [decide_eq_false_iff_not]; exact ey
                  clear h3 h3'
                  go_wp2_with fail
                  go_quiet (fail)
                  go_wp2_with fail
                  go_roundg (P - (c + 1))
                  case measure => omega
                  case rel => exact ⟨c + 1, by omega, rfl, by go_num, _, rfl⟩
              · have h3' := trivial
                have d1 : decide (0 ≤ x) = false := by rw [decide_eq_false_iff_not]; exact ex
                clear h3 h3'
                go_wp2_with fail
                go_quiet (fail)
                go_wp2_with fail
                go_roundg (P - (c + 1))
                case measure => omega
                case rel => exact ⟨c + 1, by omega, rfl, by go_num, _, rfl⟩
            · obtain rfl : P = c := by omega
              go_wp2_with fail
              go_roundg (P - (b + 1))
              case measure => omega
              case rel => exact ⟨b + 1, by omega, rfl, by go_num, n3, rfl⟩
        · obtain rfl : P = b := by omega
          go_wp2_with fail
          go_roundg (P - (a + 1))
          case measure => omega
          case rel => exact ⟨a + 1, by omega, rfl, by go_num, n2, rfl⟩
    · obtain rfl : P = a := by omega
      go_wp2_with fail
      go_ret
      exact ⟨rfl, below_drewN B0 n⟩

end Go.Proofs.Ytbfmkoahlnceoaa
