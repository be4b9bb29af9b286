/- THE WALK of PayNear: it returns true, and turns nothing that was there. -/
import Derived.Test.YtjcfflpiajefmaaPayLeast
set_option linter.unusedSimpArgs false
set_option linter.unusedVariables false
namespace Go.Proofs.Ytjcfflpiajefmaa
open Go.RowKit Lu

section
variable {s : Setup} {worker el tier x0 x1 x2 x3 x4 x5 x6 c0 c1 c2 c3 c4 c5 c6 b m g er rate : Int}
theorem PayMain.near (h : PayMain s worker el tier x0 x1 x2 x3 x4 x5 x6 c0 c1 c2 c3 c4 c5 c6 b m g er rate) (hx1 : 0 ≤ x1 ∧ x1 ≤ 604800) (hx2 : 0 ≤ x2 ∧ x2 ≤ 604800) (hx3 : 0 ≤ x3 ∧ x3 ≤ 604800) (hx4 : 0 ≤ x4 ∧ x4 ≤ 604800) (hx5 : 0 ≤ x5 ∧ x5 ≤ 604800) (hx6 : 0 ≤ x6 ∧ x6 ≤ 604800) (j : Nat) (h1 : 1 ≤ j) (h7 : j < 7) :
    0 ≤ [x0, x1, x2, x3, x4, x5, x6].getD j 0 * [0, 2 * rate, 3 * rate, 4 * rate, 2 * rate + 2 * s.diff, 3 * rate + 2 * s.diff, 4 * rate + 2 * s.diff].getD j 0 ∧ [x0, x1, x2, x3, x4, x5, x6].getD j 0 * [0, 2 * rate, 3 * rate, 4 * rate, 2 * rate + 2 * s.diff, 3 * rate + 2 * s.diff, 4 * rate + 2 * s.diff].getD j 0 ≤ 362880000000 ∧ 7200 * [c0, c1, c2, c3, c4, c5, c6].getD j 0 - [x0, x1, x2, x3, x4, x5, x6].getD j 0 * [0, 2 * rate, 3 * rate, 4 * rate, 2 * rate + 2 * s.diff, 3 * rate + 2 * s.diff, 4 * rate + 2 * s.diff].getD j 0 ≤ 3600 ∧ [x0, x1, x2, x3, x4, x5, x6].getD j 0 * [0, 2 * rate, 3 * rate, 4 * rate, 2 * rate + 2 * s.diff, 3 * rate + 2 * s.diff, 4 * rate + 2 * s.diff].getD j 0 - 7200 * [c0, c1, c2, c3, c4, c5, c6].getD j 0 < 3600 := by
  have key : ∀ (x c t : Int), 0 ≤ x ∧ x ≤ 604800 → 0 ≤ t ∧ t ≤ 600000 → (halfP (secP x * t) 7200).1 = c → 0 ≤ x * t ∧ x * t ≤ 362880000000 ∧ 7200 * c - x * t ≤ 3600 ∧ x * t - 7200 * c < 3600 := by
    intro x c t hx ht hc
    rw [secP_same hx.1 hx.2] at hc
    have := halfP_near (x * t) 7200 (by decide)
    rw [hc] at this
    have := mul_range hx ht
    omega
  have rr := h.rr
  have rd := h.ok.diff
  rcases (show j = 1 ∨ j = 2 ∨ j = 3 ∨ j = 4 ∨ j = 5 ∨ j = 6 by omega) with rfl | rfl | rfl | rfl | rfl | rfl
  · exact key x1 c1 (2 * rate) hx1 (by omega) (by rw [← h.k1]; unfold centP twiceP; rw [if_pos (by decide)]; congr 3; omega)
  · exact key x2 c2 (3 * rate) hx2 (by omega) (by rw [← h.k2]; unfold centP twiceP; rw [if_pos (by decide)]; congr 3; omega)
  · exact key x3 c3 (4 * rate) hx3 (by omega) (by rw [← h.k3]; unfold centP twiceP; rw [if_pos (by decide)]; congr 3; omega)
  · exact key x4 c4 (2 * rate + 2 * s.diff) hx4 (by omega) (by rw [← h.k4]; unfold centP twiceP; rw [if_neg (by decide)]; congr 3; omega)
  · exact key x5 c5 (3 * rate + 2 * s.diff) hx5 (by omega) (by rw [← h.k5]; unfold centP twiceP; rw [if_neg (by decide)]; congr 3; omega)
  · exact key x6 c6 (4 * rate + 2 * s.diff) hx6 (by omega) (by rw [← h.k6]; unfold centP twiceP; rw [if_neg (by decide)]; congr 3; omega)
end


set_option maxRecDepth 100000 in
set_option maxHeartbeats 4000000 in
theorem payNear_walk (s : Setup) (q : Slices) (worker x0 x1 x2 x3 x4 x5 x6 : Int) (w : World) (h : SetupIs w s q) (_hw : In worker) (_hx0 : In x0) (_hx1 : In x1) (_hx2 : In x2) (_hx3 : In x3) (_hx4 : In x4) (_hx5 : In x5) (_hx6 : In x6) :
    Calls Try.prog 5 #[.agg #[.int .i64 s.places, .slice q.wa q.wl q.wc, .int .i64 s.pn, .int .i64 s.pd, .slice q.ea q.el q.ec, .slice q.ca q.cl q.cc, .slice q.ga q.gl q.gc, .int .i64 s.allow, .int .i64 s.unit, .int .i64 s.cap, .int .i64 s.paidBreak, .int .i64 s.autoAfter, .int .i64 s.autoBreak, .int .i64 s.dayReg, .int .i64 s.dayOver, .int .i64 s.weekReg, .int .i64 s.nightFrom, .int .i64 s.nightTo, .slice q.ra q.rl q.rc, .int .i64 s.diff, .int .i64 s.least, .int .i64 s.fault, .slice q.ta q.tl q.tc], .int .i64 worker, .agg #[.int .i64 x0, .int .i64 x1, .int .i64 x2, .int .i64 x3, .int .i64 x4, .int .i64 x5, .int .i64 x6]] w fun e w' => e = .returned (.bool true) ∧ Below w.heap.size w w' := by
  clear _hx0 _hx1 _hx2 _hx3 _hx4 _hx5 _hx6
  obtain ⟨f, hf⟩ : ∃ f, fairP s worker [x0, x1, x2, x3, x4, x5, x6] = f := ⟨_, rfl⟩
  have HF := Lib.hid hf
  clear hf
  have hb : ((w.alloc (.cells #[.int .i64 s.places, .slice q.wa q.wl q.wc, .int .i64 s.pn, .int .i64 s.pd, .slice q.ea q.el q.ec, .slice q.ca q.cl q.cc, .slice q.ga q.gl q.gc, .int .i64 s.allow, .int .i64 s.unit, .int .i64 s.cap, .int .i64 s.paidBreak, .int .i64 s.autoAfter, .int .i64 s.autoBreak, .int .i64 s.dayReg, .int .i64 s.dayOver, .int .i64 s.weekReg, .int .i64 s.nightFrom, .int .i64 s.nightTo, .slice q.ra q.rl q.rc, .int .i64 s.diff, .int .i64 s.least, .int .i64 s.fault, .slice q.ta q.tl q.tc] 30)).alloc (.cells #[.int .i64 x0, .int .i64 x1, .int .i64 x2, .int .i64 x3, .int .i64 x4, .int .i64 x5, .int .i64 x6] 31)).heap[w.heap.size]? = some (.cells #[.int .i64 s.places, .slice q.wa q.wl q.wc, .int .i64 s.pn, .int .i64 s.pd, .slice q.ea q.el q.ec, .slice q.ca q.cl q.cc, .slice q.ga q.gl q.gc, .int .i64 s.allow, .int .i64 s.unit, .int .i64 s.cap, .int .i64 s.paidBreak, .int .i64 s.autoAfter, .int .i64 s.autoBreak, .int .i64 s.dayReg, .int .i64 s.dayOver, .int .i64 s.weekReg, .int .i64 s.nightFrom, .int .i64 s.nightTo, .slice q.ra q.rl q.rc, .int .i64 s.diff, .int .i64 s.least, .int .i64 s.fault, .slice q.ta q.tl q.tc] 30) := box_keep (B := w.heap.size + 1) (by go_grown) (box_new w _ rfl _ _) (by omega)
  have hs : ((w.alloc (.cells #[.int .i64 s.places, .slice q.wa q.wl q.wc, .int .i64 s.pn, .int .i64 s.pd, .slice q.ea q.el q.ec, .slice q.ca q.cl q.cc, .slice q.ga q.gl q.gc, .int .i64 s.allow, .int .i64 s.unit, .int .i64 s.cap, .int .i64 s.paidBreak, .int .i64 s.autoAfter, .int .i64 s.autoBreak, .int .i64 s.dayReg, .int .i64 s.dayOver, .int .i64 s.weekReg, .int .i64 s.nightFrom, .int .i64 s.nightTo, .slice q.ra q.rl q.rc, .int .i64 s.diff, .int .i64 s.least, .int .i64 s.fault, .slice q.ta q.tl q.tc] 30)).alloc (.cells #[.int .i64 x0, .int .i64 x1, .int .i64 x2, .int .i64 x3, .int .i64 x4, .int .i64 x5, .int .i64 x6] 31)).heap[w.heap.size + 1]? = some (.cells #[.int .i64 x0, .int .i64 x1, .int .i64 x2, .int .i64 x3, .int .i64 x4, .int .i64 x5, .int .i64 x6] 31) := box_new _ _ (by simp) _ _
  have B0 : Below w.heap.size w ((w.alloc (.cells #[.int .i64 s.places, .slice q.wa q.wl q.wc, .int .i64 s.pn, .int .i64 s.pd, .slice q.ea q.el q.ec, .slice q.ca q.cl q.cc, .slice q.ga q.gl q.gc, .int .i64 s.allow, .int .i64 s.unit, .int .i64 s.cap, .int .i64 s.paidBreak, .int .i64 s.autoAfter, .int .i64 s.autoBreak, .int .i64 s.dayReg, .int .i64 s.dayOver, .int .i64 s.weekReg, .int .i64 s.nightFrom, .int .i64 s.nightTo, .slice q.ra q.rl q.rc, .int .i64 s.diff, .int .i64 s.least, .int .i64 s.fault, .slice q.ta q.tl q.tc] 30)).alloc (.cells #[.int .i64 x0, .int .i64 x1, .int .i64 x2, .int .i64 x3, .int .i64 x4, .int .i64 x5, .int .i64 x6] 31)) := by go_grown
  have z0 : w.heap.size + 1 < ((w.alloc (.cells #[.int .i64 s.places, .slice q.wa q.wl q.wc, .int .i64 s.pn, .int .i64 s.pd, .slice q.ea q.el q.ec, .slice q.ca q.cl q.cc, .slice q.ga q.gl q.gc, .int .i64 s.allow, .int .i64 s.unit, .int .i64 s.cap, .int .i64 s.paidBreak, .int .i64 s.autoAfter, .int .i64 s.autoBreak, .int .i64 s.dayReg, .int .i64 s.dayOver, .int .i64 s.weekReg, .int .i64 s.nightFrom, .int .i64 s.nightTo, .slice q.ra q.rl q.rc, .int .i64 s.diff, .int .i64 s.least, .int .i64 s.fault, .slice q.ta q.tl q.tc] 30)).alloc (.cells #[.int .i64 x0, .int .i64 x1, .int .i64 x2, .int .i64 x3, .int .i64 x4, .int .i64 x5, .int .i64 x6] 31)).heap.size := by simp
  go_enter Try.func5, Try.ntmps5
  go_wp2_with fail
  refine (awake19 _).mono ?_
  rintro e1 w1 ⟨rfl, k1⟩
  replace hb := box_keep k1 hb (by omega)
  replace hs := box_keep k1 hs (by omega)
  replace B0 := B0.trans (k1.mono (by omega))
  replace z0 := Nat.lt_of_lt_of_le z0 k1.size
  clear k1
  go_wp2_with (first | (refine wpList_load_box 30 (.tmp 3) rfl rfl (w.heap.size) rfl 30 #[.int .i64 s.places, .slice q.wa q.wl q.wc, .int .i64 s.pn, .int .i64 s.pd, .slice q.ea q.el q.ec, .slice q.ca q.cl q.cc, .slice q.ga q.gl q.gc, .int .i64 s.allow, .int .i64 s.unit, .int .i64 s.cap, .int .i64 s.paidBreak, .int .i64 s.autoAfter, .int .i64 s.autoBreak, .int .i64 s.dayReg, .int .i64 s.dayOver, .int .i64 s.weekReg, .int .i64 s.nightFrom, .int .i64 s.nightTo, .slice q.ra q.rl q.rc, .int .i64 s.diff, .int .i64 s.least, .int .i64 s.fault, .slice q.ta q.tl q.tc] hb setup_big ?_) | (refine wpList_load_box 31 (.tmp 5) rfl rfl (w.heap.size + 1) rfl 31 #[.int .i64 x0, .int .i64 x1, .int .i64 x2, .int .i64 x3, .int .i64 x4, .int .i64 x5, .int .i64 x6] hs seven_big ?_))
  refine (law_fair s q worker x0 x1 x2 x3 x4 x5 x6 f _ (h.below B0) HF.out).mono ?_
  rintro e2 w2 ⟨rfl, k2⟩
  replace hb := box_keep k2 hb (by omega)
  replace hs := box_keep k2 hs (by omega)
  replace B0 := B0.trans (k2.mono (by omega))
  replace z0 := Nat.lt_of_lt_of_le z0 k2.size
  clear k2
  cases f
  · go_wp2_with fail
    go_ret
    exact ⟨rfl, B0⟩
  · obtain ⟨c0, c1, c2, c3, c4, c5, c6, b, m, g, er, hp⟩ := payP_shape s worker 0 (-1) [x0, x1, x2, x3, x4, x5, x6]
    have hfr := fair_of HF.out
    obtain ⟨rate, M⟩ := payMain hfr hp
    obtain rfl := M.ez
    obtain rfl := M.cz
    have HP := Lib.hid hp
    clear hp
    have hwl := hfr.lo
    have hwh := hfr.hi
    have hrl := h.rates.1
    obtain ⟨rb, roff, hra, hrc⟩ := h.rates.2.2.2.resolve_left (by omega)
    have hrt := hrc worker.toNat (by omega)
    rw [M.rt] at hrt
    have hrr := M.rr
    have hrd := M.ok.diff
    have hN := M.near (hfr.secs x1 (by simp)) (hfr.secs x2 (by simp)) (hfr.secs x3 (by simp)) (hfr.secs x4 (by simp)) (hfr.secs x5 (by simp)) (hfr.secs x6 (by simp))
    have hC := seven_all (P := fun z => 0 ≤ z ∧ z ≤ 362880000001) (x0 := 0) (by decide) M.cent1 M.cent2 M.cent3 M.cent4 M.cent5 M.cent6
    have HRA := Lib.hid hra
    have HRT := Lib.hid hrt
    have HN := Lib.hid hN
    have HC := Lib.hid hC
    clear M hfr hra hrc hrt hN hC
    go_wp2_with (first | (refine wpList_load_box 30 (.tmp 3) rfl rfl (w.heap.size) rfl 30 #[.int .i64 s.places, .slice q.wa q.wl q.wc, .int .i64 s.pn, .int .i64 s.pd, .slice q.ea q.el q.ec, .slice q.ca q.cl q.cc, .slice q.ga q.gl q.gc, .int .i64 s.allow, .int .i64 s.unit, .int .i64 s.cap, .int .i64 s.paidBreak, .int .i64 s.autoAfter, .int .i64 s.autoBreak, .int .i64 s.dayReg, .int .i64 s.dayOver, .int .i64 s.weekReg, .int .i64 s.nightFrom, .int .i64 s.nightTo, .slice q.ra q.rl q.rc, .int .i64 s.diff, .int .i64 s.least, .int .i64 s.fault, .slice q.ta q.tl q.tc] hb setup_big ?_) | (refine wpList_load_box 31 (.tmp 5) rfl rfl (w.heap.size + 1) rfl 31 #[.int .i64 x0, .int .i64 x1, .int .i64 x2, .int .i64 x3, .int .i64 x4, .int .i64 x5, .int .i64 x6] hs seven_big ?_))
    refine (pay_Of_is s q worker x0 x1 x2 x3 x4 x5 x6 0 (-1) 0 c1 c2 c3 c4 c5 c6 b m g 0 _ (h.below B0) HP.out).mono ?_
    rintro e3 w3 ⟨rfl, k3⟩
    replace hb := box_keep k3 hb (by omega)
    replace hs := box_keep k3 hs (by omega)
    replace B0 := B0.trans (k3.mono (by omega))
    replace z0 := Nat.lt_of_lt_of_le z0 k3.size
    clear k3
    have ha : (w3.alloc (.cells #[.int .i64 0, .int .i64 c1, .int .i64 c2, .int .i64 c3, .int .i64 c4, .int .i64 c5, .int .i64 c6] 31)).heap[w3.heap.size]? = some (.cells #[.int .i64 0, .int .i64 c1, .int .i64 c2, .int .i64 c3, .int .i64 c4, .int .i64 c5, .int .i64 c6] 31) := box_new _ _ rfl _ _
    have hk : Below w3.heap.size w3 (w3.alloc (.cells #[.int .i64 0, .int .i64 c1, .int .i64 c2, .int .i64 c3, .int .i64 c4, .int .i64 c5, .int .i64 c6] 31)) := by go_grown
    have za3 : w.heap.size + 1 < w3.heap.size := z0
    replace hb := box_keep hk hb (by omega)
    replace hs := box_keep hk hs (by omega)
    replace B0 := B0.trans (hk.mono (by omega))
    replace z0 := Nat.lt_of_lt_of_le z0 hk.size
    clear hk
    have c18 : (w3.alloc (.cells #[.int .i64 0, .int .i64 c1, .int .i64 c2, .int .i64 c3, .int .i64 c4, .int .i64 c5, .int .i64 c6] 31)).cell? ⟨w.heap.size, 18, none⟩ = some (.slice q.ra q.rl q.rc) := by rw [cell_of_block hb]; rfl
    have c19 : (w3.alloc (.cells #[.int .i64 0, .int .i64 c1, .int .i64 c2, .int .i64 c3, .int .i64 c4, .int .i64 c5, .int .i64 c6] 31)).cell? ⟨w.heap.size, 19, none⟩ = some (.int .i64 s.diff) := by rw [cell_of_block hb]; rfl
    rw [HRA.out] at c18
    have crt := keepD B0 HRT.out
    have hw2 : worker < (q.rl : Int) := by omega
    have hrb : rb < w3.heap.size := by have := World.block_lt_of_cell? w _ HRT.out; simp only at this; omega
    generalize hV : w3.alloc (.cells #[.int .i64 0, .int .i64 c1, .int .i64 c2, .int .i64 c3, .int .i64 c4, .int .i64 c5, .int .i64 c6] 31) = V at *
    have hkV : Below V.heap.size V (V.alloc (.cells #[.int .i64 0, .int .i64 (2 * rate), .int .i64 (3 * rate), .int .i64 (4 * rate), .int .i64 (2 * rate + 2 * s.diff), .int .i64 (3 * rate + 2 * s.diff), .int .i64 (4 * rate + 2 * s.diff)] 31)) := by go_grown
    have hsv := fun j hj => seven_cell (box_keep hkV hs (by omega)) j hj
    have zV : w3.heap.size < V.heap.size := by rw [← hV]; simp
    have hcv := fun j hj => seven_cell (box_keep hkV ha (by omega)) j hj
    have htv := fun j hj => seven_cell (box_new V V.heap.size rfl #[.int .i64 0, .int .i64 (2 * rate), .int .i64 (3 * rate), .int .i64 (4 * rate), .int .i64 (2 * rate + 2 * s.diff), .int .i64 (3 * rate + 2 * s.diff), .int .i64 (4 * rate + 2 * s.diff)] 31) j hj
    have B1 := B0.trans (hkV.mono (by have := B0.size; omega))
    have HSV := Lib.hid hsv
    have HCV := Lib.hid hcv
    have HTV := Lib.hid htv
    clear hsv hcv htv hkV hs ha hb B0
    go_wp2_with fail
    generalize V.alloc (.cells #[.int .i64 0, .int .i64 (2 * rate), .int .i64 (3 * rate), .int .i64 (4 * rate), .int .i64 (2 * rate + 2 * s.diff), .int .i64 (3 * rate + 2 * s.diff), .int .i64 (4 * rate + 2 * s.diff)] 31) = V2 at *
    clear crt c18 c19
    go_loopw [15] (fun i wr => ∃ k : Nat, k ≤ 7 ∧ i = .int .i64 k ∧ ∃ n, wr = V2.drewN n) (fun i _ => 7 - (intOf i).toNat)
    case atStart => exact ⟨0, by omega, rfl, 0, rfl⟩
    case round =>
      obtain ⟨k, hk, rfl, n, rfl⟩ := hrel
      by_cases hlt : k < 7
      · have d0 : V2.cell? ⟨w3.heap.size, k, none⟩ = some (.int .i64 ([0, c1, c2, c3, c4, c5, c6].getD k 0)) := HCV.out k hlt
        have d1 : V2.cell? ⟨w.heap.size + 1, k, none⟩ = some (.int .i64 ([x0, x1, x2, x3, x4, x5, x6].getD k 0)) := HSV.out k hlt
        have d2 : V2.cell? ⟨V.heap.size, k, none⟩ = some (.int .i64 ([0, 2 * rate, 3 * rate, 4 * rate, 2 * rate + 2 * s.diff, 3 * rate + 2 * s.diff, 4 * rate + 2 * s.diff].getD k 0)) := HTV.out k hlt
        have r3 := HC.out k hlt
        have hki : (k : Int) < 7 := by omega
        by_cases k0 : k = 0
        · subst k0
          have i1 : IntKind.i64.wrap (x0 * 0) = 0 := by rw [Int.mul_zero]; rfl
          go_wp2_with fail
          go_quiet (fail)
          go_wp2
          go_roundw
          case rel => exact ⟨0 + 1, by omega, by go_num, _, rfl⟩
          case measure => simp [intOf]
        · have k1 : 0 < k := by omega
          obtain ⟨n1, n2, n3, n4⟩ := HN.out k k1 hlt
          clear k0
          generalize [0, c1, c2, c3, c4, c5, c6].getD k 0 = c at *
          generalize [x0, x1, x2, x3, x4, x5, x6].getD k 0 = x at *
          generalize [0, 2 * rate, 3 * rate, 4 * rate, 2 * rate + 2 * s.diff, 3 * rate + 2 * s.diff, 4 * rate + 2 * s.diff].getD k 0 = t at *
          have i1 : IntKind.i64.wrap (x * t) = x * t := IntWalk.i64_in _ (by omega)
          have q1 : decide (3600 < 7200 * c - x * t) = false := by simp; omega
          have q2 : decide (3600 ≤ x * t - 7200 * c) = false := by simp; omega
          go_wp2_with fail
          go_quiet (fail)
          go_wp2
          go_roundw
          case rel => exact ⟨k + 1, by omega, by go_num, _, rfl⟩
          case measure => simp [intOf]; omega
      · obtain rfl : k = 7 := by omega
        go_wp2_with fail
        go_ret
        exact ⟨rfl, (below_drewN_iff n).2 B1⟩

end Go.Proofs.Ytjcfflpiajefmaa
